/-
 Parts: KLits K3 K4.
-/
import Derived.Test.YtmbbdjpnecjleaaGreatH11
import Derived.Test.YtmbbdjpnecjleaaGreatH10
import Derived.Test.YtmbbdjpnecjleaaGreatH13
import Derived.Test.YtmbbdjpnecjleaaGreatH14
import Derived.Test.YtmbbdjpnecjleaaGreatH18
namespace Go.Proofs.YtmbbdjpnecjleaaGreat
section
set_option maxRecDepth 100000
set_option maxHeartbeats 1000000
open Go.RowKit
theorem lits_of {l0 : List Value} {n : Nat} (h : l0.length = n) : ∃ u : Nat → Value, l0 = (List.range n).map u := ⟨fun k => l0.getD k undef, by
 subst h
 apply List.ext_getElem
 · simp
 · intro i h1 h2
   simp [h1]⟩
theorem Blk.cs2 {w : World} {g : Nat} {t : TypeId} {a b : Value} (h : Blk w g t #[a, b]) : w.cell? ⟨g, 0, none⟩ = some a ∧ w.cell? ⟨g, 1, none⟩ = some b := ⟨h.cell 0, h.cell 1⟩
theorem Blk.cs3 {w : World} {g : Nat} {t : TypeId} {a b c : Value} (h : Blk w g t #[a, b, c]) : w.cell? ⟨g, 0, none⟩ = some a ∧ w.cell? ⟨g, 1, none⟩ = some b ∧ w.cell? ⟨g, 2, none⟩ = some c := ⟨h.cell 0, h.cell 1, h.cell 2⟩
theorem Blk.fz3 {w : World} {g : Nat} {t : TypeId} {cs : Array Value} (h : Blk w g t cs) : w.frozen? ⟨g, 0, none⟩ = false ∧ w.frozen? ⟨g, 1, none⟩ = false ∧ w.frozen? ⟨g, 2, none⟩ = false := ⟨h.frozen 0, h.frozen 1, h.frozen 2⟩
theorem Blk.cs4 {w : World} {g : Nat} {t : TypeId} {a b c d : Value} (h : Blk w g t #[a, b, c, d]) : w.cell? ⟨g, 0, none⟩ = some a ∧ w.cell? ⟨g, 1, none⟩ = some b ∧ w.cell? ⟨g, 2, none⟩ = some c ∧ w.cell? ⟨g, 3, none⟩ = some d := ⟨h.cell 0, h.cell 1, h.cell 2, h.cell 3⟩
theorem Blk.fz4 {w : World} {g : Nat} {t : TypeId} {cs : Array Value} (h : Blk w g t cs) : w.frozen? ⟨g, 0, none⟩ = false ∧ w.frozen? ⟨g, 1, none⟩ = false ∧ w.frozen? ⟨g, 2, none⟩ = false ∧ w.frozen? ⟨g, 3, none⟩ = false := ⟨h.frozen 0, h.frozen 1, h.frozen 2, h.frozen 3⟩
theorem Blk.cs6 {w : World} {g : Nat} {t : TypeId} {a b c d e f : Value} (h : Blk w g t #[a, b, c, d, e, f]) : w.cell? ⟨g, 0, none⟩ = some a ∧ w.cell? ⟨g, 1, none⟩ = some b ∧ w.cell? ⟨g, 2, none⟩ = some c ∧ w.cell? ⟨g, 3, none⟩ = some d ∧ w.cell? ⟨g, 4, none⟩ = some e ∧ w.cell? ⟨g, 5, none⟩ = some f := ⟨h.cell 0, h.cell 1, h.cell 2, h.cell 3, h.cell 4, h.cell 5⟩
theorem Blk.fz6 {w : World} {g : Nat} {t : TypeId} {cs : Array Value} (h : Blk w g t cs) : w.frozen? ⟨g, 0, none⟩ = false ∧ w.frozen? ⟨g, 1, none⟩ = false ∧ w.frozen? ⟨g, 2, none⟩ = false ∧ w.frozen? ⟨g, 3, none⟩ = false ∧ w.frozen? ⟨g, 4, none⟩ = false ∧ w.frozen? ⟨g, 5, none⟩ = false := ⟨h.frozen 0, h.frozen 1, h.frozen 2, h.frozen 3, h.frozen 4, h.frozen 5⟩
theorem Blk.cs8 {w : World} {g : Nat} {t : TypeId} {a b c d e f o p : Value} (h : Blk w g t #[a, b, c, d, e, f, o, p]) : w.cell? ⟨g, 0, none⟩ = some a ∧ w.cell? ⟨g, 1, none⟩ = some b ∧ w.cell? ⟨g, 2, none⟩ = some c ∧ w.cell? ⟨g, 3, none⟩ = some d ∧ w.cell? ⟨g, 4, none⟩ = some e ∧ w.cell? ⟨g, 5, none⟩ = some f ∧ w.cell? ⟨g, 6, none⟩ = some o ∧ w.cell? ⟨g, 7, none⟩ = some p := ⟨h.cell 0, h.cell 1, h.cell 2, h.cell 3, h.cell 4, h.cell 5, h.cell 6, h.cell 7⟩
theorem kal1 {w wa : World} {t0 : TypeId} {c0 : Array Value} (h : wa = w.alloc (.cells c0 t0)) : Below w.heap.size w wa ∧ Blk wa (w.heap.size) t0 c0 := by
 subst h
 exact ⟨bel_alloc (bel_refl w) _, (Blk.new (w) t0 c0)⟩
theorem kal2 {w wa : World} {t0 : TypeId} {c0 : Array Value} {t1 : TypeId} {c1 : Array Value} (h : wa = (w.alloc (.cells c0 t0)).alloc (.cells c1 t1)) : Below w.heap.size w wa ∧ Blk wa (w.heap.size) t0 c0 ∧ Blk wa (w.heap.size + 1) t1 c1 := by
 subst h
 exact ⟨bel_alloc (bel_alloc (bel_refl w) _) _, ((Blk.new (w) t0 c0).alloc _), (show Blk _ (w.heap.size + 1) t1 c1 from by have hz := Blk.new (w.alloc (.cells c0 t0)) t1 c1; rw [World.size_alloc] at hz; exact hz)⟩
theorem kal3 {w wa : World} {t0 : TypeId} {c0 : Array Value} {t1 : TypeId} {c1 : Array Value} {t2 : TypeId} {c2 : Array Value} (h : wa = ((w.alloc (.cells c0 t0)).alloc (.cells c1 t1)).alloc (.cells c2 t2)) : Below w.heap.size w wa ∧ Blk wa (w.heap.size) t0 c0 ∧ Blk wa (w.heap.size + 1) t1 c1 ∧ Blk wa (w.heap.size + 2) t2 c2 := by
 subst h
 exact ⟨bel_alloc (bel_alloc (bel_alloc (bel_refl w) _) _) _, (((Blk.new (w) t0 c0).alloc _).alloc _), ((show Blk _ (w.heap.size + 1) t1 c1 from by have hz := Blk.new (w.alloc (.cells c0 t0)) t1 c1; rw [World.size_alloc] at hz; exact hz).alloc _), (show Blk _ (w.heap.size + 2) t2 c2 from by have hz := Blk.new ((w.alloc (.cells c0 t0)).alloc (.cells c1 t1)) t2 c2; rw [World.size_alloc, World.size_alloc] at hz; exact hz)⟩
theorem lits_13 {l0 : List Value} (hs0 : l0.length = 13) : ∃ u : Nat → Value, l0 = [u 0, u 1, u 2, u 3, u 4, u 5, u 6, u 7, u 8, u 9, u 10, u 11, u 12] := lits_of hs0
theorem lits_15 {l0 : List Value} (hs0 : l0.length = 15) : ∃ u : Nat → Value, l0 = [u 0, u 1, u 2, u 3, u 4, u 5, u 6, u 7, u 8, u 9, u 10, u 11, u 12, u 13, u 14] := lits_of hs0
theorem lits_29 {l0 : List Value} (hs0 : l0.length = 29) : ∃ u : Nat → Value, l0 = [u 0, u 1, u 2, u 3, u 4, u 5, u 6, u 7, u 8, u 9, u 10, u 11, u 12, u 13, u 14, u 15, u 16, u 17, u 18, u 19, u 20, u 21, u 22, u 23, u 24, u 25, u 26, u 27, u 28] := lits_of hs0
theorem lits_35 {l0 : List Value} (hs0 : l0.length = 35) : ∃ u : Nat → Value, l0 = [u 0, u 1, u 2, u 3, u 4, u 5, u 6, u 7, u 8, u 9, u 10, u 11, u 12, u 13, u 14, u 15, u 16, u 17, u 18, u 19, u 20, u 21, u 22, u 23, u 24, u 25, u 26, u 27, u 28, u 29, u 30, u 31, u 32, u 33, u 34] := lits_of hs0
theorem lits_80 {l0 : List Value} (hs0 : l0.length = 80) : ∃ u : Nat → Value, l0 = [u 0, u 1, u 2, u 3, u 4, u 5, u 6, u 7, u 8, u 9, u 10, u 11, u 12, u 13, u 14, u 15, u 16, u 17, u 18, u 19, u 20, u 21, u 22, u 23, u 24, u 25, u 26, u 27, u 28, u 29, u 30, u 31, u 32, u 33, u 34, u 35, u 36, u 37, u 38, u 39, u 40, u 41, u 42, u 43, u 44, u 45, u 46, u 47, u 48, u 49, u 50, u 51, u 52, u 53, u 54, u 55, u 56, u 57, u 58, u 59, u 60, u 61, u 62, u 63, u 64, u 65, u 66, u 67, u 68, u 69, u 70, u 71, u 72, u 73, u 74, u 75, u 76, u 77, u 78, u 79] := lits_of hs0
theorem lits_190 {l0 : List Value} (hs0 : l0.length = 190) : ∃ u : Nat → Value, l0 = [u 0, u 1, u 2, u 3, u 4, u 5, u 6, u 7, u 8, u 9, u 10, u 11, u 12, u 13, u 14, u 15, u 16, u 17, u 18, u 19, u 20, u 21, u 22, u 23, u 24, u 25, u 26, u 27, u 28, u 29, u 30, u 31, u 32, u 33, u 34, u 35, u 36, u 37, u 38, u 39, u 40, u 41, u 42, u 43, u 44, u 45, u 46, u 47, u 48, u 49, u 50, u 51, u 52, u 53, u 54, u 55, u 56, u 57, u 58, u 59, u 60, u 61, u 62, u 63, u 64, u 65, u 66, u 67, u 68, u 69, u 70, u 71, u 72, u 73, u 74, u 75, u 76, u 77, u 78, u 79, u 80, u 81, u 82, u 83, u 84, u 85, u 86, u 87, u 88, u 89, u 90, u 91, u 92, u 93, u 94, u 95, u 96, u 97, u 98, u 99, u 100, u 101, u 102, u 103, u 104, u 105, u 106, u 107, u 108, u 109, u 110, u 111, u 112, u 113, u 114, u 115, u 116, u 117, u 118, u 119, u 120, u 121, u 122, u 123, u 124, u 125, u 126, u 127, u 128, u 129, u 130, u 131, u 132, u 133, u 134, u 135, u 136, u 137, u 138, u 139, u 140, u 141, u 142, u 143, u 144, u 145, u 146, u 147, u 148, u 149, u 150, u 151, u 152, u 153, u 154, u 155, u 156, u 157, u 158, u 159, u 160, u 161, u 162, u 163, u 164, u 165, u 166, u 167, u 168, u 169, u 170, u 171, u 172, u 173, u 174, u 175, u 176, u 177, u 178, u 179, u 180, u 181, u 182, u 183, u 184, u 185, u 186, u 187, u 188, u 189] := lits_of hs0
end
end Go.Proofs.YtmbbdjpnecjleaaGreat
namespace Go.Proofs.YtmbbdjpnecjleaaGreat
section
set_option maxRecDepth 100000
set_option maxHeartbeats 1000000
open Go.RowKit

def noU32 (cs : Array Value) : Bool := cs.toList.all fun v => match v with | .int .u32 _ => false | _ => true
theorem RdL.apart {w : World} {g : Nat} {t : TypeId} {cs : Array Value} {E : Option Addr} {xs : List Nat} (hB : Blk w g t cs) (hn : noU32 cs = true) (h : RdL w E xs) (hx : 0 < xs.length) :
 ∃ b off, E = some ⟨b, off, none⟩ ∧ b < w.heap.size ∧ b ≠ g ∧ ∀ k, k < xs.length → w.cell? ⟨b, off + k, none⟩ = some (.int .u32 (xs.getD k 0 : Nat)) := by
 obtain ⟨b, off, e, hb, hc⟩ := h hx
 refine ⟨b, off, e, hb, ?_, hc⟩
 rintro rfl
 have h0 := hc 0 hx
 rw [hB.cell] at h0
 have h1 := Array.mem_of_getElem? h0
 have h2 := List.all_eq_true.1 hn _ (Array.mem_toList_iff.2 h1)
 simp at h2
theorem RdL.set6 {w : World} {g : Nat} {t : TypeId} {cs : Array Value} {E : Option Addr} {xs : List Nat} (hB : Blk w g t cs) (hn : noU32 cs = true) (h : RdL w E xs) (x y z u v k : Value) :
 RdL ((((((w.setCell ⟨g, 0, none⟩ x).setCell ⟨g, 1, none⟩ y).setCell ⟨g, 2, none⟩ z).setCell ⟨g, 3, none⟩ u).setCell ⟨g, 4, none⟩ v).setCell ⟨g, 5, none⟩ k) E xs := by
 intro hx
 obtain ⟨b, off, e, hb, hbg, hc⟩ := RdL.apart hB hn h hx
 refine ⟨b, off, e, by simpa using hb, fun k hk => ?_⟩
 rw [cell_far hbg, cell_far hbg, cell_far hbg, cell_far hbg, cell_far hbg, cell_far hbg]
 exact hc k hk
theorem RdN.set6 {w : World} {g : Nat} {t : TypeId} {cs : Array Value} {p : Value} {n : Nat} (hB : Blk w g t cs) (hn : noU32 cs = true) (h : RdN w p n) (x y z u v k : Value) :
 RdN ((((((w.setCell ⟨g, 0, none⟩ x).setCell ⟨g, 1, none⟩ y).setCell ⟨g, 2, none⟩ z).setCell ⟨g, 3, none⟩ u).setCell ⟨g, 4, none⟩ v).setCell ⟨g, 5, none⟩ k) p n := by
 obtain ⟨E, cap, rfl, hcap, hr⟩ := h
 exact ⟨E, cap, rfl, hcap, RdL.set6 hB hn hr x y z u v k⟩
theorem Blk.put6 {w : World} {g : Nat} {t : TypeId} {a b c d e f : Value} (h : Blk w g t #[a, b, c, d, e, f]) (x y z u v k : Value) :
 Blk ((((((w.setCell ⟨g, 0, none⟩ x).setCell ⟨g, 1, none⟩ y).setCell ⟨g, 2, none⟩ z).setCell ⟨g, 3, none⟩ u).setCell ⟨g, 4, none⟩ v).setCell ⟨g, 5, none⟩ k) g t #[x, y, z, u, v, k] := (((((h.put 0 x).put 1 y).put 2 z).put 3 u).put 4 v).put 5 k
theorem bel_set6 {w wk : World} {g : Nat} (h : Below w.heap.size w wk) (hg : w.heap.size ≤ g) (x y z u v k : Value) :
 Below w.heap.size w ((((((wk.setCell ⟨g, 0, none⟩ x).setCell ⟨g, 1, none⟩ y).setCell ⟨g, 2, none⟩ z).setCell ⟨g, 3, none⟩ u).setCell ⟨g, 4, none⟩ v).setCell ⟨g, 5, none⟩ k) := (((((h.setCell hg x).setCell hg y).setCell hg z).setCell hg u).setCell hg v).setCell hg k
def VNum (X : Nat) : World → Value → Prop := fun w v => RdN w v X
theorem VNum.lift (X : Nat) : LiftP (VNum X) := fun _ _ _ h hb => RdN.below h hb
def RetV (k : Int) (b : Bool) (s : ByteArray) (q : Q) (c : Int) (w : World) (e : Ending) (w' : World) : Prop :=
 ∃ x y, e = .returned (.tuple #[.agg #[.int .i64 k, .bool b, .string s, .bool q.s, x, y], .int .i64 c]) ∧ RdN w' x q.n ∧ RdN w' y q.d ∧ Below w.heap.size w w'
def RetP (q : Q) (w : World) (e : Ending) (w' : World) : Prop :=
 ∃ x y, e = .returned (.agg #[.int .i64 3, .bool false, .string ⟨#[]⟩, .bool q.s, x, y]) ∧ RdN w' x q.n ∧ RdN w' y q.d ∧ Below w.heap.size w w'
theorem kOne_any (w : World) : Calls Tryz.prog 64 #[] w (RetN 1 w) := by
 go_enter Tryz.func64, Tryz.ntmps64
 go_wp2_with fail
 refine (of_one w).mono ?_
 rintro e w1 ⟨v, rfl, h⟩
 go_wp2
 go_ret
 exact ⟨v, rfl, h⟩
theorem kIsW_num (q : Q) (A B : Option Addr) (c d : Nat) (w : World) (h : RdL w A (limbs q.n)) (h' : RdL w B (limbs q.d)) (hc : (limbs q.n).length ≤ c) (hc' : (limbs q.d).length ≤ d) (hn : q.n < Top) (hd : q.d < Top) :
 Calls Tryz.prog 27 #[.agg #[.int .i64 3, .bool false, .string ⟨#[]⟩, .bool q.s, .slice A (limbs q.n).length c, .slice B (limbs q.d).length d]] w (RetBB (decide (q.d = 1)) w) := by
 have RA := Lib.hid h; clear h
 have RB := Lib.hid h'; clear h'
 have LA := Lib.hid (And.intro hn hc); clear hn hc
 have LB := Lib.hid (And.intro hd hc'); clear hd hc'
 obtain ⟨wa, hwa⟩ : ∃ wa, wa = w.alloc (.cells #[.int .i64 3, .bool false, .string ⟨#[]⟩, .bool q.s, .slice A (limbs q.n).length c, .slice B (limbs q.d).length d] 27) := ⟨_, rfl⟩
 obtain ⟨hbl, CX⟩ := kal1 hwa
 replace RA := hmR RA hbl
 replace RB := hmR RB hbl
 have HW := Lib.hid hbl; clear hbl
 replace CX := Lib.hid CX
 go_enter Tryz.func27, Tryz.ntmps27
 go_wp2_with fail
 rw [← hwa]
 clear hwa
 obtain ⟨CX0, -, -, -, -, CX5⟩ := CX.out.cs6
 refine wp_region_typedG 11 (TOf [VIs (.pointer (some ⟨w.heap.size, 0, none⟩)),
  VIs (.int .i64 3),
  VIs (.bool true),
  VIs (.bool true),
  VIs (.pointer (some ⟨w.heap.size, 3, none⟩)),
  VIs (.pointer (some ⟨w.heap.size, 5, none⟩)),
  VIs (.slice B (limbs q.d).length d),
  VNum 1,
  VIs (.bool (decide (q.d = 1))),
  VIs (.bool (decide (q.d = 1))),
  VIs (.bool (decide (q.d = 1)))]) (by kernel_rfl) (by kernel_rfl) (by kernel_rfl) (LiftAll.at_ (.cons (VIs.lift _) (.cons (VIs.lift _) (.cons (VIs.lift _) (.cons (VIs.lift _) (.cons (VIs.lift _) (.cons (VIs.lift _) (.cons (VIs.lift _) (.cons (VNum.lift _) (.cons (VIs.lift _) (.cons (VIs.lift _) (.cons (VIs.lift _) .nil)))))))))))) (stepsG_all (stepsG_cons ?_ (stepsG_cons ?_ (stepsG_cons ?_ (stepsG_cons ?_ (stepsG_cons ?_ (stepsG_cons ?_ (stepsG_cons ?_ (stepsG_cons ?_ (stepsG_cons ?_ (stepsG_cons ?_ (stepsG_cons ?_ stepsG_zero)))))))))))) ?fin
 · refine stepG_plain rfl ?_
   intro a0 w9 K9 hF hB hK hC
   have b1 := hF.base (k := 1) (by kernel_rfl) rfl
   clear hF hB hK
   go_simp
   exact hC _ _ (bR _) fun _ _ => rfl
 · refine stepG_plain rfl ?_
   intro a0 w9 K9 hF hB hK hC
   have e3 := depV hK 0 rfl rfl rfl rfl
   have x9 := (CX.out.below hB CX.out.lt).c0
   clear hF hB hK
   go_simp
   exact hC _ _ (bR _) fun _ _ => rfl
 · refine stepG_plain rfl ?_
   intro a0 w9 K9 hF hB hK hC
   have e4 := depV hK 0 rfl rfl rfl rfl
   have HB9 := Lib.hid hB
   clear hF hB hK
   go_simp
   exact hC _ _ (bR _) fun _ _ => rfl
 · refine stepG_plain rfl ?_
   intro a0 w9 K9 hF hB hK hC
   have e5 := depV hK 0 rfl rfl rfl rfl
   clear hF hB hK
   go_simp
   exact hC _ _ (bR _) fun _ _ => rfl
 · intro a0 w9 K9 hF hB hK hC
   obtain ⟨vg, eg, zg⟩ := dep hK 0 (g := .guard) (j := 3) (k := 6) rfl rfl rfl
   have zg : vg = .bool true := zg
   subst zg
   refine guard_in (j := 3) (k := 6) (want := true) rfl rfl eg rfl ?_
   have b1 := hF.base (k := 1) (by kernel_rfl) rfl
   clear hF hB hK
   go_simp
   exact hC _ _ (bR _) fun _ _ => rfl
 · intro a0 w9 K9 hF hB hK hC
   obtain ⟨vg, eg, zg⟩ := dep hK 1 (g := .guard) (j := 3) (k := 6) rfl rfl rfl
   have zg : vg = .bool true := zg
   subst zg
   refine guard_in (j := 3) (k := 6) (want := true) rfl rfl eg rfl ?_
   have e7 := depV hK 0 rfl rfl rfl rfl
   clear hF hB hK
   go_simp
   exact hC _ _ (bR _) fun _ _ => rfl
 · intro a0 w9 K9 hF hB hK hC
   obtain ⟨vg, eg, zg⟩ := dep hK 1 (g := .guard) (j := 3) (k := 6) rfl rfl rfl
   have zg : vg = .bool true := zg
   subst zg
   refine guard_in (j := 3) (k := 6) (want := true) rfl rfl eg rfl ?_
   have e8 := depV hK 0 rfl rfl rfl rfl
   have x9 := (CX.out.below hB CX.out.lt).c5
   clear hF hB hK
   go_simp
   exact hC _ _ (bR _) fun _ _ => rfl
 · intro a0 w9 K9 hF hB hK hC
   obtain ⟨vg, eg, zg⟩ := dep hK 1 (g := .guard) (j := 3) (k := 6) rfl rfl rfl
   have zg : vg = .bool true := zg
   subst zg
   refine guard_in (j := 3) (k := 6) (want := true) rfl rfl eg rfl ?_
   have HB9 := Lib.hid hB
   clear hF hB hK
   go_simp
   refine (kOne_any _).mono ?_
   rintro e w7 ⟨v7, rfl, hn7, hbl⟩
   exact hC _ _ hbl fun _ _ => hn7
 · intro a0 w9 K9 hF hB hK hC
   obtain ⟨vg, eg, zg⟩ := dep hK 3 (g := .guard) (j := 3) (k := 6) rfl rfl rfl
   have zg : vg = .bool true := zg
   subst zg
   refine guard_in (j := 3) (k := 6) (want := true) rfl rfl eg rfl ?_
   have e9 := depV hK 0 rfl rfl rfl rfl
   obtain ⟨v10, e10, z10⟩ := dep hK 1 (g := .data) (j := 7) (k := 10) rfl rfl rfl
   have z10 : RdN w9 v10 1 := z10
   obtain ⟨A10, c10, rfl, hc10, hr10⟩ := z10
   have HB9 := Lib.hid hB
   clear hF hB hK
   go_simp
   refine (equal_num B A10 d c10 q.d 1 _ (RB.out.below HB9.out) hr10 LB.out.1).mono ?_
   rintro e w7 ⟨rfl, hbl⟩
   exact hC _ _ hbl fun _ _ => rfl
 · refine stepG_plain rfl ?_
   intro a0 w9 K9 hF hB hK hC
   have e6 := depV hK 0 rfl rfl rfl rfl
   have e11 := depV hK 1 rfl rfl rfl rfl
   have HB9 := Lib.hid hB
   clear hF hB hK
   go_simp
   exact hC _ _ (bR _) fun _ _ => rfl
 · refine stepG_plain rfl ?_
   intro a0 w9 K9 hF hB hK hC
   have e12 := depV hK 0 rfl rfl rfl rfl
   clear hF hB hK
   go_simp
   exact hC _ _ (bR _) fun _ _ => rfl
 case fin =>
  intro a0 w9 hF hB hK
  have b1 := hF.base (k := 1) (by kernel_rfl) rfl
  have hsz := hF.size
  have hdf := hF.defers
  clear hF
  obtain ⟨v2, e2, z2⟩ := known hK 10 (k := 2) (by decide) rfl
  have z2 : v2 = .bool (decide (q.d = 1)) := z2
  subst z2
  clear hK
  obtain ⟨⟨l0⟩, df⟩ := a0
  have hs0 : l0.length = 13 := hsz
  clear hsz
  replace hdf : df = _ := hdf
  subst hdf
  obtain ⟨u, rfl⟩ := lits_13 hs0
  clear hs0
  have q1 : u 1 = _ := Option.some.inj b1
  clear b1
  have q2 : u 2 = _ := Option.some.inj e2
  clear e2
  rw [q1, q2]
  clear q1 q2
  have hbl := hB; clear hB
  replace RA := hmR RA hbl
  replace RB := hmR RB hbl
  replace CX := hmB CX hbl
  replace HW := hmW HW hbl; clear hbl
  clear CX0 CX5
  obtain ⟨CX0, -, -, -, -, CX5⟩ := CX.out.cs6
  refine wpList_nil ?_
  go_wp2
  go_ret
  exact ⟨rfl, HW.out⟩
theorem kIsW_not (k : Int) (b : Bool) (s : ByteArray) (hk1 : (k == 3) = false) (hk2 : ¬ k = 3) (q : Q) (A B : Option Addr) (c d : Nat) (w : World) (h : RdL w A (limbs q.n)) (h' : RdL w B (limbs q.d)) (hc : (limbs q.n).length ≤ c) (hc' : (limbs q.d).length ≤ d) (hn : q.n < Top) (hd : q.d < Top) :
 Calls Tryz.prog 27 #[.agg #[.int .i64 k, .bool b, .string s, .bool q.s, .slice A (limbs q.n).length c, .slice B (limbs q.d).length d]] w (RetBB false w) := by
 have RA := Lib.hid h; clear h
 have RB := Lib.hid h'; clear h'
 have LA := Lib.hid (And.intro hn hc); clear hn hc
 have LB := Lib.hid (And.intro hd hc'); clear hd hc'
 obtain ⟨wa, hwa⟩ : ∃ wa, wa = w.alloc (.cells #[.int .i64 k, .bool b, .string s, .bool q.s, .slice A (limbs q.n).length c, .slice B (limbs q.d).length d] 27) := ⟨_, rfl⟩
 obtain ⟨hbl, CX⟩ := kal1 hwa
 replace RA := hmR RA hbl
 replace RB := hmR RB hbl
 have HW := Lib.hid hbl; clear hbl
 replace CX := Lib.hid CX
 go_enter Tryz.func27, Tryz.ntmps27
 go_wp2_with fail
 rw [← hwa]
 clear hwa
 obtain ⟨CX0, -, -, -, -, CX5⟩ := CX.out.cs6
 refine wp_region_typedG 11 (TOf [VIs (.pointer (some ⟨w.heap.size, 0, none⟩)),
  VIs (.int .i64 k),
  VIs (.bool false),
  VIs (.bool false),
  VIs undef,
  VIs undef,
  VIs undef,
  VIs undef,
  VIs undef,
  VIs (.bool false),
  VIs (.bool false)]) (by kernel_rfl) (by kernel_rfl) (by kernel_rfl) (LiftAll.at_ (.cons (VIs.lift _) (.cons (VIs.lift _) (.cons (VIs.lift _) (.cons (VIs.lift _) (.cons (VIs.lift _) (.cons (VIs.lift _) (.cons (VIs.lift _) (.cons (VIs.lift _) (.cons (VIs.lift _) (.cons (VIs.lift _) (.cons (VIs.lift _) .nil)))))))))))) (stepsG_all (stepsG_cons ?_ (stepsG_cons ?_ (stepsG_cons ?_ (stepsG_cons ?_ (stepsG_cons ?_ (stepsG_cons ?_ (stepsG_cons ?_ (stepsG_cons ?_ (stepsG_cons ?_ (stepsG_cons ?_ (stepsG_cons ?_ stepsG_zero)))))))))))) ?fin
 · refine stepG_plain rfl ?_
   intro a0 w9 K9 hF hB hK hC
   have b1 := hF.base (k := 1) (by kernel_rfl) rfl
   clear hF hB hK
   go_simp
   exact hC _ _ (bR _) fun _ _ => rfl
 · refine stepG_plain rfl ?_
   intro a0 w9 K9 hF hB hK hC
   have e3 := depV hK 0 rfl rfl rfl rfl
   have x9 := (CX.out.below hB CX.out.lt).c0
   clear hF hB hK
   go_simp
   exact hC _ _ (bR _) fun _ _ => rfl
 · refine stepG_plain rfl ?_
   intro a0 w9 K9 hF hB hK hC
   have e4 := depV hK 0 rfl rfl rfl rfl
   have HB9 := Lib.hid hB
   clear hF hB hK
   have hk9 := hk1; have hk8 := hk2
   go_simp
   exact hC _ _ (bR _) fun _ _ => rfl
 · refine stepG_plain rfl ?_
   intro a0 w9 K9 hF hB hK hC
   have e5 := depV hK 0 rfl rfl rfl rfl
   clear hF hB hK
   have hk9 := hk1; have hk8 := hk2
   go_simp
   exact hC _ _ (bR _) fun _ _ => rfl
 · intro a0 w9 K9 hF hB hK hC
   obtain ⟨vg, eg, zg⟩ := dep hK 0 (g := .guard) (j := 3) (k := 6) rfl rfl rfl
   have zg : vg = .bool false := zg
   subst zg
   refine guard_out (j := 3) (k := 6) (want := true) rfl rfl eg rfl ?_
   exact hC undef _ (bel_refl _) fun _ _ => rfl
 · intro a0 w9 K9 hF hB hK hC
   obtain ⟨vg, eg, zg⟩ := dep hK 1 (g := .guard) (j := 3) (k := 6) rfl rfl rfl
   have zg : vg = .bool false := zg
   subst zg
   refine guard_out (j := 3) (k := 6) (want := true) rfl rfl eg rfl ?_
   exact hC undef _ (bel_refl _) fun _ _ => rfl
 · intro a0 w9 K9 hF hB hK hC
   obtain ⟨vg, eg, zg⟩ := dep hK 1 (g := .guard) (j := 3) (k := 6) rfl rfl rfl
   have zg : vg = .bool false := zg
   subst zg
   refine guard_out (j := 3) (k := 6) (want := true) rfl rfl eg rfl ?_
   exact hC undef _ (bel_refl _) fun _ _ => rfl
 · intro a0 w9 K9 hF hB hK hC
   obtain ⟨vg, eg, zg⟩ := dep hK 1 (g := .guard) (j := 3) (k := 6) rfl rfl rfl
   have zg : vg = .bool false := zg
   subst zg
   refine guard_out (j := 3) (k := 6) (want := true) rfl rfl eg rfl ?_
   exact hC undef _ (bel_refl _) fun _ _ => rfl
 · intro a0 w9 K9 hF hB hK hC
   obtain ⟨vg, eg, zg⟩ := dep hK 3 (g := .guard) (j := 3) (k := 6) rfl rfl rfl
   have zg : vg = .bool false := zg
   subst zg
   refine guard_out (j := 3) (k := 6) (want := true) rfl rfl eg rfl ?_
   exact hC undef _ (bel_refl _) fun _ _ => rfl
 · refine stepG_plain rfl ?_
   intro a0 w9 K9 hF hB hK hC
   have e6 := depV hK 0 rfl rfl rfl rfl
   have e11 := depV hK 1 rfl rfl rfl rfl
   have HB9 := Lib.hid hB
   clear hF hB hK
   go_simp
   exact hC _ _ (bR _) fun _ _ => rfl
 · refine stepG_plain rfl ?_
   intro a0 w9 K9 hF hB hK hC
   have e12 := depV hK 0 rfl rfl rfl rfl
   clear hF hB hK
   go_simp
   exact hC _ _ (bR _) fun _ _ => rfl
 case fin =>
  intro a0 w9 hF hB hK
  have b1 := hF.base (k := 1) (by kernel_rfl) rfl
  have hsz := hF.size
  have hdf := hF.defers
  clear hF
  obtain ⟨v2, e2, z2⟩ := known hK 10 (k := 2) (by decide) rfl
  have z2 : v2 = .bool false := z2
  subst z2
  clear hK
  obtain ⟨⟨l0⟩, df⟩ := a0
  have hs0 : l0.length = 13 := hsz
  clear hsz
  replace hdf : df = _ := hdf
  subst hdf
  obtain ⟨u, rfl⟩ := lits_13 hs0
  clear hs0
  have q1 : u 1 = _ := Option.some.inj b1
  clear b1
  have q2 : u 2 = _ := Option.some.inj e2
  clear e2
  rw [q1, q2]
  clear q1 q2
  have hbl := hB; clear hB
  replace RA := hmR RA hbl
  replace RB := hmR RB hbl
  replace CX := hmB CX hbl
  replace HW := hmW HW hbl; clear hbl
  clear CX0 CX5
  obtain ⟨CX0, -, -, -, -, CX5⟩ := CX.out.cs6
  refine wpList_nil ?_
  go_wp2
  go_ret
  exact ⟨rfl, HW.out⟩
theorem kNum_any (q : Q) (A B : Option Addr) (c d : Nat) (w : World) (h : RdL w A (limbs q.n)) (h' : RdL w B (limbs q.d)) (hc : (limbs q.n).length ≤ c) (hc' : (limbs q.d).length ≤ d) : Calls Tryz.prog 30 #[.agg #[.bool q.s, .slice A (limbs q.n).length c, .slice B (limbs q.d).length d]] w (RetP q w) := by
 have H0 := Lib.hid (RdL.below h (bel_alloc (bel_alloc (bel_refl w) (.cells #[.bool q.s, .slice A (limbs q.n).length c, .slice B (limbs q.d).length d] 25)) (.cells #[.int .i64 3, .bool false, .string ⟨#[]⟩, .bool q.s, .slice A (limbs q.n).length c, .slice B (limbs q.d).length d] 27)))
 have H1 := Lib.hid (RdL.below h' (bel_alloc (bel_alloc (bel_refl w) (.cells #[.bool q.s, .slice A (limbs q.n).length c, .slice B (limbs q.d).length d] 25)) (.cells #[.int .i64 3, .bool false, .string ⟨#[]⟩, .bool q.s, .slice A (limbs q.n).length c, .slice B (limbs q.d).length d] 27)))
 have HC := Lib.hid (And.intro hc hc'); clear hc hc' h h'
 go_enter Tryz.func30, Tryz.ntmps30
 go_wp2
 refine bodyPost_ret (v := .agg #[.int .i64 3, .bool false, .string ⟨#[]⟩, .bool q.s, .slice A (limbs q.n).length c, .slice B (limbs q.d).length d]) ?hr rfl ?hR
 case hR => exact ⟨_, _, rfl, ⟨A, c, rfl, HC.out.1, H0.out⟩, ⟨B, d, rfl, HC.out.2, H1.out⟩, bel_alloc (bel_alloc (bel_refl _) _) _⟩
 case hr =>
  have hz := Blk.new (w.alloc (.cells #[.bool q.s, .slice A (limbs q.n).length c, .slice B (limbs q.d).length d] 25)) 27 #[.int .i64 3, .bool false, .string ⟨#[]⟩, .bool q.s, .slice A (limbs q.n).length c, .slice B (limbs q.d).length d]
  rw [World.size_alloc] at hz
  exact results_cell_row rfl _ _ (w.heap.size + 1) 27 _ (0, 0) _ rfl hz Tryz.underlying27 rfl (by kernel_rfl)
end
end Go.Proofs.YtmbbdjpnecjleaaGreat
namespace Go.Proofs.YtmbbdjpnecjleaaGreat
section
set_option maxRecDepth 100000
set_option maxHeartbeats 1000000
open Go.RowKit

def FlOver (q : Q) (sz : Int) : Prop := ∃ p u t cc ex, Fm sz p u t ∧ Code p u q.n q.d cc ex ∧ ((t + u + 2) * 2 ^ (p - 1) ≤ cc ∨ (¬ (t + u + 2) * 2 ^ (p - 1) ≤ cc ∧ (Top ≤ LN p u cc ∨ Top ≤ LD p u cc)))
def FlFit (q : Q) (sz : Int) (v : Q) : Prop := ∃ p u t cc ex, Fm sz p u t ∧ Code p u q.n q.d cc ex ∧ ¬ (t + u + 2) * 2 ^ (p - 1) ≤ cc ∧ LN p u cc < Top ∧ LD p u cc < Top ∧ v = valQ (q.s && decide (cc ≠ 0)) p u cc
theorem fl_any (q : Q) {sz : Int} (hz : sz = 32 ∨ sz = 64) (hd : q.d ≠ 0) : FlOver q sz ∨ ∃ v, FlFit q sz v := by
 obtain ⟨p, u, t, hf⟩ : ∃ p u t, Fm sz p u t := by
  rcases hz with h | h
  · exact ⟨24, 149, 104, .inl ⟨h, rfl, rfl, rfl⟩⟩
  · exact ⟨53, 1074, 971, .inr ⟨h, rfl, rfl, rfl⟩⟩
 obtain ⟨cc, ex, hC⟩ := code_any p u q.n q.d (Nat.pos_of_ne_zero hd)
 by_cases h1 : (t + u + 2) * 2 ^ (p - 1) ≤ cc
 · exact .inl ⟨p, u, t, cc, ex, hf, hC, .inl h1⟩
 · by_cases h2 : Top ≤ LN p u cc ∨ Top ≤ LD p u cc
   · exact .inl ⟨p, u, t, cc, ex, hf, hC, .inr ⟨h1, h2⟩⟩
   · exact .inr ⟨_, p, u, t, cc, ex, hf, hC, h1, by omega, by omega, rfl⟩
theorem bits_lt {sz : Int} {p u t b : Nat} (hf : Fm sz p u t) (h : ¬ (t + u + 2) * 2 ^ (p - 1) ≤ b) : b < 2 ^ (sz.toNat - 1) := by
 rcases hf with ⟨rfl, rfl, rfl, rfl⟩ | ⟨rfl, rfl, rfl, rfl⟩
 · have h1 : (104 + 149 + 2) * 2 ^ (24 - 1) < 2 ^ ((32 : Int).toNat - 1) := by decide
   omega
 · have h1 : (971 + 1074 + 2) * 2 ^ (53 - 1) < 2 ^ ((64 : Int).toNat - 1) := by decide
   omega
theorem rval_any {sz : Int} {p u t b N : Nat} (s : Bool) (w : World) (hf : Fm sz p u t) (hb : ¬ (t + u + 2) * 2 ^ (p - 1) ≤ b) (hs : b = 0 → s = false) (hN : N = b + s.toNat * 2 ^ (sz.toNat - 1)) :
 Calls Tryz.prog 108 #[.int .u64 (N : Int), .int .i64 sz] w (RetVal s p u b w) := by
 have hl := bits_lt hf hb
 have hf0 := hf
 rcases hf with ⟨e, _⟩ | ⟨e, _⟩
 · have h32 : N < 4294967296 := by
    rw [hN]
    subst e
    have : b < 2147483648 := hl
    have h2 : (2 : Nat) ^ ((32 : Int).toNat - 1) = 2147483648 := by decide
    rw [h2]
    cases s <;> simp <;> omega
   exact rvalue_good_t N sz p u t b s w hf0 (by rw [e]; rfl) h32 hb hs hN
 · exact rvalue_good_f N sz p u t b s w hf0 (by rw [e]; rfl) hb hs hN
theorem sgn_code (s : Bool) (sz : Int) (cc : Nat) : sgn s sz cc = cc + (s && decide (cc ≠ 0)).toNat * 2 ^ (sz.toNat - 1) := by
 unfold sgn
 cases s <;> by_cases h : cc = 0 <;> simp [h]
theorem kFloat_over (sz : Int) (q : Q) (A B : Option Addr) (c d : Nat) (w : World) (h : RdL w A (limbs q.n)) (h' : RdL w B (limbs q.d)) (hc : (limbs q.n).length ≤ c) (hc' : (limbs q.d).length ≤ d) (hn : q.n < Top) (hd : q.d < Top) (hq : QR q) (hA : FlOver q sz) :
 Calls Tryz.prog 67 #[.agg #[.bool q.s, .slice A (limbs q.n).length c, .slice B (limbs q.d).length d], .int .i64 sz] w (RetV 0 false ⟨#[]⟩ noQ 2 w) := by
 obtain ⟨p, u, t, cc, ex, hf, hC, hO⟩ := hA
 have HF := Lib.hid hf; clear hf
 have HC := Lib.hid hC; clear hC
 rcases hO with hO | ⟨hO, hO2⟩
 · have HO := Lib.hid hO; clear hO
   have RA := Lib.hid h; clear h
   have RB := Lib.hid h'; clear h'
   have LA := Lib.hid (And.intro hn hc); clear hn hc
   have LB := Lib.hid (And.intro hd hc'); clear hd hc'
   have HQ := Lib.hid hq; clear hq
   obtain ⟨wa, hwa⟩ : ∃ wa, wa = (w.alloc (.cells #[.bool q.s, .slice A (limbs q.n).length c, .slice B (limbs q.d).length d] 25)).alloc (.cells #[.int .i64 0, .bool false, .string ⟨#[]⟩, .bool false, .slice none 0 0, .slice none 0 0] 27) := ⟨_, rfl⟩
   obtain ⟨hbl, CX, RES⟩ := kal2 hwa
   replace RA := hmR RA hbl
   replace RB := hmR RB hbl
   have HW := Lib.hid hbl; clear hbl
   replace CX := Lib.hid CX
   replace RES := Lib.hid RES
   go_enter Tryz.func67, Tryz.ntmps67
   go_wp2_with fail
   rw [← hwa]
   clear hwa
   obtain ⟨CX0, CX1, CX2⟩ := CX.out.cs3
   refine (rbits_over q.s A B c d q.n q.d sz p u t _ RA.out RB.out LA.out.2 LB.out.2 LA.out.1 LB.out.1 HQ.out HF.out HC.out HO.out).mono ?_
   rintro e w1 ⟨rfl, hbl⟩
   replace RA := hmR RA hbl
   replace RB := hmR RB hbl
   replace CX := hmB CX hbl
   replace RES := hmB RES hbl
   replace HW := hmW HW hbl; clear hbl
   clear CX0 CX1 CX2
   obtain ⟨CX0, CX1, CX2⟩ := CX.out.cs3
   obtain ⟨d0, d1, d2, d3, d4, d5⟩ := RES.out.cs6
   obtain ⟨f0, f1, f2, f3, f4, f5⟩ := RES.out.fz6
   go_wp2
   exact bodyPost_ret (results_row_tmp rfl _ _ (w.heap.size + 1) 27 _ (0, 0) _ _ rfl rfl (RES.out.put6 _ _ _ _ _ _) Tryz.underlying27 rfl (by kernel_rfl)) rfl ⟨_, _, rfl, (RdN.set6 RES.out rfl (RdN.none0 _) _ _ _ _ _ _), (RdN.set6 RES.out rfl (RdN.none0 _) _ _ _ _ _ _), (bel_set6 (g := w.heap.size + 1) HW.out (by omega) _ _ _ _ _ _)⟩
 · have HO := Lib.hid (And.intro hO hO2); clear hO hO2
   have RA := Lib.hid h; clear h
   have RB := Lib.hid h'; clear h'
   have LA := Lib.hid (And.intro hn hc); clear hn hc
   have LB := Lib.hid (And.intro hd hc'); clear hd hc'
   have HQ := Lib.hid hq; clear hq
   obtain ⟨wa, hwa⟩ : ∃ wa, wa = (w.alloc (.cells #[.bool q.s, .slice A (limbs q.n).length c, .slice B (limbs q.d).length d] 25)).alloc (.cells #[.int .i64 0, .bool false, .string ⟨#[]⟩, .bool false, .slice none 0 0, .slice none 0 0] 27) := ⟨_, rfl⟩
   obtain ⟨hbl, CX, RES⟩ := kal2 hwa
   replace RA := hmR RA hbl
   replace RB := hmR RB hbl
   have HW := Lib.hid hbl; clear hbl
   replace CX := Lib.hid CX
   replace RES := Lib.hid RES
   go_enter Tryz.func67, Tryz.ntmps67
   go_wp2_with fail
   rw [← hwa]
   clear hwa
   obtain ⟨CX0, CX1, CX2⟩ := CX.out.cs3
   obtain ⟨U, hU⟩ : ∃ U, sgn q.s sz cc = U := ⟨_, rfl⟩
   have HU := Lib.hid hU; clear hU
   refine (rbits_fit q.s A B c d q.n q.d sz p u t _ RA.out RB.out LA.out.2 LB.out.2 LA.out.1 LB.out.1 HQ.out HF.out HC.out HO.out.1 HU.out).mono ?_
   rintro e w1 ⟨rfl, hbl⟩
   replace RA := hmR RA hbl
   replace RB := hmR RB hbl
   replace CX := hmB CX hbl
   replace RES := hmB RES hbl
   replace HW := hmW HW hbl; clear hbl
   clear CX0 CX1 CX2
   obtain ⟨CX0, CX1, CX2⟩ := CX.out.cs3
   go_wp2_with fail
   refine (rval_any (q.s && decide (cc ≠ 0)) _ HF.out HO.out.1 (by intro h; simp [h]) (by rw [← HU.out]; exact sgn_code _ _ _)).mono ?_
   intro E w2 hr
   unfold RetVal at hr
   rw [if_pos HO.out.2] at hr
   obtain ⟨vx, vy, rfl, hnx, hny, hbl⟩ := hr
   replace RA := hmR RA hbl
   replace RB := hmR RB hbl
   replace CX := hmB CX hbl
   replace RES := hmB RES hbl
   replace HW := hmW HW hbl; clear hbl
   clear CX0 CX1 CX2
   obtain ⟨CX0, CX1, CX2⟩ := CX.out.cs3
   obtain ⟨Ax, cx, rfl, _, _⟩ := hnx.row
   obtain ⟨Ay, cy, rfl, _, _⟩ := hny.row
   clear hnx hny
   have hbl : Below w2.heap.size w2 (w2.alloc (.cells #[.bool noQ.s, .slice Ax (limbs noQ.n).length cx, .slice Ay (limbs noQ.d).length cy] 25)) := bel_alloc (bel_refl _) _
   obtain ⟨w3, hw3⟩ : ∃ w3, w3 = w2.alloc (.cells #[.bool noQ.s, .slice Ax (limbs noQ.n).length cx, .slice Ay (limbs noQ.d).length cy] 25) := ⟨_, rfl⟩
   rw [← hw3] at hbl
   go_upto_region 5 with fail
   rw [← hw3]
   clear hw3
   replace RA := hmR RA hbl
   replace RB := hmR RB hbl
   replace CX := hmB CX hbl
   replace RES := hmB RES hbl
   replace HW := hmW HW hbl; clear hbl
   clear CX0 CX1 CX2
   obtain ⟨CX0, CX1, CX2⟩ := CX.out.cs3
   obtain ⟨d0, d1, d2, d3, d4, d5⟩ := RES.out.cs6
   obtain ⟨f0, f1, f2, f3, f4, f5⟩ := RES.out.fz6
   go_wp2
   exact bodyPost_ret (results_row_tmp rfl _ _ (w.heap.size + 1) 27 _ (0, 0) _ _ rfl rfl (RES.out.put6 _ _ _ _ _ _) Tryz.underlying27 rfl (by kernel_rfl)) rfl ⟨_, _, rfl, (RdN.set6 RES.out rfl (RdN.none0 _) _ _ _ _ _ _), (RdN.set6 RES.out rfl (RdN.none0 _) _ _ _ _ _ _), (bel_set6 (g := w.heap.size + 1) HW.out (by omega) _ _ _ _ _ _)⟩
theorem kFloat_fit {v : Q} (sz : Int) (q : Q) (A B : Option Addr) (c d : Nat) (w : World) (h : RdL w A (limbs q.n)) (h' : RdL w B (limbs q.d)) (hc : (limbs q.n).length ≤ c) (hc' : (limbs q.d).length ≤ d) (hn : q.n < Top) (hd : q.d < Top) (hq : QR q) (hA : FlFit q sz v) :
 Calls Tryz.prog 67 #[.agg #[.bool q.s, .slice A (limbs q.n).length c, .slice B (limbs q.d).length d], .int .i64 sz] w (RetV 3 false ⟨#[]⟩ v 0 w) := by
 obtain ⟨p, u, t, cc, ex, hf, hC, hO, hl, hl2, rfl⟩ := hA
 have HF := Lib.hid hf; clear hf
 have HC := Lib.hid hC; clear hC
 have HO := Lib.hid (And.intro hO (And.intro hl hl2)); clear hO hl hl2
 obtain ⟨U, hU⟩ : ∃ U, sgn q.s sz cc = U := ⟨_, rfl⟩
 have HU := Lib.hid hU; clear hU
 have KV := Lib.hid (fun W => rval_any (q.s && decide (cc ≠ 0)) W HF.out HO.out.1 (by intro h; simp [h]) (N := U) (by rw [← HU.out]; exact sgn_code _ _ _))
 have hVT : (valQ (q.s && decide (cc ≠ 0)) p u cc).n = LN p u cc ∧ (valQ (q.s && decide (cc ≠ 0)) p u cc).d = LD p u cc := ⟨rfl, rfl⟩
 obtain ⟨V, hV⟩ : ∃ V, valQ (q.s && decide (cc ≠ 0)) p u cc = V := ⟨_, rfl⟩
 rw [hV] at hVT ⊢
 have HV := Lib.hid (And.intro hV hVT); clear hV hVT
 have RA := Lib.hid h; clear h
 have RB := Lib.hid h'; clear h'
 have LA := Lib.hid (And.intro hn hc); clear hn hc
 have LB := Lib.hid (And.intro hd hc'); clear hd hc'
 have HQ := Lib.hid hq; clear hq
 obtain ⟨wa, hwa⟩ : ∃ wa, wa = (w.alloc (.cells #[.bool q.s, .slice A (limbs q.n).length c, .slice B (limbs q.d).length d] 25)).alloc (.cells #[.int .i64 0, .bool false, .string ⟨#[]⟩, .bool false, .slice none 0 0, .slice none 0 0] 27) := ⟨_, rfl⟩
 obtain ⟨hbl, CX, RES⟩ := kal2 hwa
 replace RA := hmR RA hbl
 replace RB := hmR RB hbl
 have HW := Lib.hid hbl; clear hbl
 replace CX := Lib.hid CX
 replace RES := Lib.hid RES
 go_enter Tryz.func67, Tryz.ntmps67
 go_wp2_with fail
 rw [← hwa]
 clear hwa
 obtain ⟨CX0, CX1, CX2⟩ := CX.out.cs3
 refine (rbits_fit q.s A B c d q.n q.d sz p u t _ RA.out RB.out LA.out.2 LB.out.2 LA.out.1 LB.out.1 HQ.out HF.out HC.out HO.out.1 HU.out).mono ?_
 rintro e w1 ⟨rfl, hbl⟩
 replace RA := hmR RA hbl
 replace RB := hmR RB hbl
 replace CX := hmB CX hbl
 replace RES := hmB RES hbl
 replace HW := hmW HW hbl; clear hbl
 clear CX0 CX1 CX2
 obtain ⟨CX0, CX1, CX2⟩ := CX.out.cs3
 go_wp2_with fail
 refine (KV.out _).mono ?_
 intro E w2 hr
 unfold RetVal at hr
 rw [if_neg (by have := HO.out.2; omega), HV.out.1] at hr
 obtain ⟨vx, vy, rfl, hnx, hny, hbl⟩ := hr
 replace RA := hmR RA hbl
 replace RB := hmR RB hbl
 replace CX := hmB CX hbl
 replace RES := hmB RES hbl
 replace HW := hmW HW hbl; clear hbl
 clear CX0 CX1 CX2
 obtain ⟨CX0, CX1, CX2⟩ := CX.out.cs3
 have HNx := Lib.hid hnx; clear hnx
 obtain ⟨Ax, cx, rfl, hcx, hrx⟩ := HNx.out.row
 have Rx := Lib.hid hrx; have HCx := Lib.hid hcx; clear hrx hcx
 have HNy := Lib.hid hny; clear hny
 obtain ⟨Ay, cy, rfl, hcy, hry⟩ := HNy.out.row
 have Ry := Lib.hid hry; have HCy := Lib.hid hcy; clear hry hcy
 have hbl : Below w2.heap.size w2 (w2.alloc (.cells #[.bool V.s, .slice Ax (limbs V.n).length cx, .slice Ay (limbs V.d).length cy] 25)) := bel_alloc (bel_refl _) _
 have CY : Blk (w2.alloc (.cells #[.bool V.s, .slice Ax (limbs V.n).length cx, .slice Ay (limbs V.d).length cy] 25)) w2.heap.size 25 #[.bool V.s, .slice Ax (limbs V.n).length cx, .slice Ay (limbs V.d).length cy] := Blk.new _ _ _
 obtain ⟨w3, hw3⟩ : ∃ w3, w3 = w2.alloc (.cells #[.bool V.s, .slice Ax (limbs V.n).length cx, .slice Ay (limbs V.d).length cy] 25) := ⟨_, rfl⟩
 rw [← hw3] at hbl CY
 replace CY := Lib.hid CY
 go_upto_region 5 with fail
 rw [← hw3]
 clear hw3
 replace RA := hmR RA hbl
 replace RB := hmR RB hbl
 replace Rx := hmR Rx hbl
 replace HNx := hmN HNx hbl
 replace Ry := hmR Ry hbl
 replace HNy := hmN HNy hbl
 replace CX := hmB CX hbl
 replace RES := hmB RES hbl
 replace HW := hmW HW hbl; clear hbl
 clear CX0 CX1 CX2
 obtain ⟨CX0, CX1, CX2⟩ := CX.out.cs3
 clear CX0 CX1 CX2
 obtain ⟨CX0, CX1, CX2⟩ := CX.out.cs3
 obtain ⟨CY0, CY1, CY2⟩ := CY.out.cs3
 go_wp2_with fail
 refine (kNum_any V Ax Ay cx cy _ Rx.out Ry.out HCx.out HCy.out).mono ?_
 rintro e w4 ⟨vx2, vy2, rfl, hn2, hn3, hbl⟩
 replace RA := hmR RA hbl
 replace RB := hmR RB hbl
 replace Rx := hmR Rx hbl
 replace HNx := hmN HNx hbl
 replace Ry := hmR Ry hbl
 replace HNy := hmN HNy hbl
 replace CX := hmB CX hbl
 replace RES := hmB RES hbl
 replace CY := hmB CY hbl
 replace HW := hmW HW hbl; clear hbl
 clear CX0 CX1 CX2 CY0 CY1 CY2
 obtain ⟨CX0, CX1, CX2⟩ := CX.out.cs3
 obtain ⟨CY0, CY1, CY2⟩ := CY.out.cs3
 obtain ⟨Az, cz, rfl, hcz, hrz⟩ := hn2.row
 obtain ⟨Au, cu, rfl, hcu, hru⟩ := hn3.row
 have HN2 := Lib.hid hn2; have HN3 := Lib.hid hn3; clear hn2 hn3 hcz hrz hcu hru
 obtain ⟨d0, d1, d2, d3, d4, d5⟩ := RES.out.cs6
 obtain ⟨f0, f1, f2, f3, f4, f5⟩ := RES.out.fz6
 go_wp2
 exact bodyPost_ret (results_row_tmp rfl _ _ (w.heap.size + 1) 27 _ (0, 0) _ _ rfl rfl (RES.out.put6 _ _ _ _ _ _) Tryz.underlying27 rfl (by kernel_rfl)) rfl ⟨_, _, rfl, (RdN.set6 RES.out rfl (HN2.out) _ _ _ _ _ _), (RdN.set6 RES.out rfl (HN3.out) _ _ _ _ _ _), (bel_set6 (g := w.heap.size + 1) HW.out (by omega) _ _ _ _ _ _)⟩
end
end Go.Proofs.YtmbbdjpnecjleaaGreat
