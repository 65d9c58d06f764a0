/-
 Parts: K11 K12 LawBack0 K17 K13 K14 K16 RoD K15 K18.
-/
import Derived.Test.YtmbbdjpnecjleaaGreatH19
import Derived.Test.YtmbbdjpnecjleaaGreatH25
import Derived.Test.YtmbbdjpnecjleaaGreatH18
import Derived.Test.YtmbbdjpnecjleaaGreatH14
import Derived.Test.YtmbbdjpnecjleaaGreatH13
import Derived.Deep.DeepCutAuto
import Derived.Test.YtmbbdjpnecjleaaGreatH23
import Derived.Test.YtmbbdjpnecjleaaGreatH16
import Derived.Test.YtmbbdjpnecjleaaGreatH15
import Derived.Test.YtmbbdjpnecjleaaGreatH17
import Derived.Test.YtmbbdjpnecjleaaGreatH20
import Derived.Test.YtmbbdjpnecjleaaGreatH21
import Derived.BigQuiet
namespace Go.Proofs.YtmbbdjpnecjleaaGreat
section
set_option maxRecDepth 100000
set_option maxHeartbeats 1000000
open Go.RowKit

theorem dec_one15 : dec 1 = ⟨#[49]⟩ := by decide +kernel
theorem over_fit {n : Nat} (h : n < Top) : overB false n 1 = false := by
 unfold overB
 rw [decide_eq_false (by omega), decide_eq_false (by decide +kernel)]
 rfl
theorem refDiv_agg (a b : Nat) (w : World) (hl : (decL a).length ≤ 1000) (hl' : (decL b).length ≤ 1000) (hb0 : b ≠ 0) : Calls Tryz.prog 109 #[.string (dec a), .string (dec b)] w (fun e w' => e = .returned (.agg #[.string (dec (a / b)), .string (dec (a % b))]) ∧ Below w.heap.size w w') := refDiv_any a b w hl hl' hb0
theorem rTrunc_is {r : Q} (q : Q) (w : World) (hn : q.n < Top) (hd : q.d < Top) (h0 : q.d ≠ 0) (hr : redQ q.s (q.n / q.d) 1 = r) :
 Calls Tryz.prog 128 #[.agg #[.bool q.s, .string (dec q.n), .string (dec q.d), .bool false]] w (RetFr r false w) := by
 have HL := Lib.hid (And.intro hn (And.intro hd (And.intro h0 hr))); clear hn hd h0 hr
 obtain ⟨wa, hwa⟩ : ∃ wa, wa = (w.alloc (.cells #[.bool q.s, .string (dec q.n), .string (dec q.d), .bool false] 37)).alloc (.cells #[.bool false, .string ⟨#[]⟩, .string ⟨#[]⟩, .bool false] 37) := ⟨_, rfl⟩
 obtain ⟨hbl, CX, RES⟩ := kal2 hwa
 have HW := Lib.hid hbl; clear hbl
 replace CX := Lib.hid CX
 replace RES := Lib.hid RES
 go_enter Tryz.func128, Tryz.ntmps128
 go_wp2_with fail
 rw [← hwa]
 clear hwa
 obtain ⟨CX0, CX1, CX2, CX3⟩ := CX.out.cs4
 refine wp_region_typed 12 (TOf [VIs (.pointer (some ⟨w.heap.size, 0, none⟩)),
  VIs (.bool q.s),
  VIs (.pointer (some ⟨w.heap.size, 1, none⟩)),
  VIs (.string (dec q.n)),
  VIs (.pointer (some ⟨w.heap.size, 2, none⟩)),
  VIs (.string (dec q.d)),
  VIs (.agg #[.string (dec (q.n / q.d)), .string (dec (q.n % q.d))]),
  VIs (.string (dec (q.n / q.d))),
  VIs (.pointer (some ⟨w.heap.size, 3, none⟩)),
  VIs (.bool false),
  VIs (.agg #[.bool q.s, .string (dec (q.n / q.d)), .string (dec 1), .bool false]),
  VIs (.agg #[.bool r.s, .string (dec r.n), .string (dec r.d), .bool false])]) (by kernel_rfl) (by kernel_rfl) (by kernel_rfl) (LiftAll.at_ (.cons (VIs.lift _) (.cons (VIs.lift _) (.cons (VIs.lift _) (.cons (VIs.lift _) (.cons (VIs.lift _) (.cons (VIs.lift _) (.cons (VIs.lift _) (.cons (VIs.lift _) (.cons (VIs.lift _) (.cons (VIs.lift _) (.cons (VIs.lift _) (.cons (VIs.lift _) .nil))))))))))))) (steps_all (steps_cons ?_ (steps_cons ?_ (steps_cons ?_ (steps_cons ?_ (steps_cons ?_ (steps_cons ?_ (steps_cons ?_ (steps_cons ?_ (steps_cons ?_ (steps_cons ?_ (steps_cons ?_ (steps_cons ?_ steps_zero))))))))))))) ?fin
 · intro a0 w9 K9 hF hB hK hC
   have b1 := hF.base (k := 1) (by kernel_rfl) rfl
   clear hF hB hK
   go_simp
   exact hC _ _ (bR _) fun _ _ => rfl
 · intro a0 w9 K9 hF hB hK hC
   have e3 := depV hK 0 rfl rfl rfl rfl
   have x9 := (CX.out.below hB CX.out.lt).c0
   clear hF hB hK
   go_simp
   exact hC _ _ (bR _) fun _ _ => rfl
 · intro a0 w9 K9 hF hB hK hC
   have b1 := hF.base (k := 1) (by kernel_rfl) rfl
   clear hF hB hK
   go_simp
   exact hC _ _ (bR _) fun _ _ => rfl
 · intro a0 w9 K9 hF hB hK hC
   have e5 := depV hK 0 rfl rfl rfl rfl
   have x9 := (CX.out.below hB CX.out.lt).c1
   clear hF hB hK
   go_simp
   exact hC _ _ (bR _) fun _ _ => rfl
 · intro a0 w9 K9 hF hB hK hC
   have b1 := hF.base (k := 1) (by kernel_rfl) rfl
   clear hF hB hK
   go_simp
   exact hC _ _ (bR _) fun _ _ => rfl
 · intro a0 w9 K9 hF hB hK hC
   have e7 := depV hK 0 rfl rfl rfl rfl
   have x9 := (CX.out.below hB CX.out.lt).c2
   clear hF hB hK
   go_simp
   exact hC _ _ (bR _) fun _ _ => rfl
 · intro a0 w9 K9 hF hB hK hC
   have e6 := depV hK 0 rfl rfl rfl rfl
   have e8 := depV hK 1 rfl rfl rfl rfl
   have HB9 := Lib.hid hB
   clear hF hB hK
   go_simp
   refine (refDiv_agg q.n q.d _ (by have := decL_top HL.out.1; omega) (by have := decL_top HL.out.2.1; omega) HL.out.2.2.1).mono ?_
   rintro e w7 ⟨rfl, hbl⟩
   exact hC _ _ hbl fun _ _ => rfl
 · intro a0 w9 K9 hF hB hK hC
   have e9 := depV hK 0 rfl rfl rfl rfl
   have HB9 := Lib.hid hB
   clear hF hB hK
   go_simp
   exact hC _ _ (bR _) fun _ _ => rfl
 · intro a0 w9 K9 hF hB hK hC
   have b1 := hF.base (k := 1) (by kernel_rfl) rfl
   clear hF hB hK
   go_simp
   exact hC _ _ (bR _) fun _ _ => rfl
 · intro a0 w9 K9 hF hB hK hC
   have e11 := depV hK 0 rfl rfl rfl rfl
   have x9 := (CX.out.below hB CX.out.lt).c3
   clear hF hB hK
   go_simp
   exact hC _ _ (bR _) fun _ _ => rfl
 · intro a0 w9 K9 hF hB hK hC
   have e4 := depV hK 0 rfl rfl rfl rfl
   have e10 := depV hK 1 rfl rfl rfl rfl
   have e12 := depV hK 2 rfl rfl rfl rfl
   have HB9 := Lib.hid hB
   clear hF hB hK
   have h19 := dec_one15
   go_simp
   exact hC _ _ (bR _) fun _ _ => rfl
 · intro a0 w9 K9 hF hB hK hC
   have e13 := depV hK 0 rfl rfl rfl rfl
   have HB9 := Lib.hid hB
   clear hF hB hK
   go_simp
   refine (refRed_q q.s (q.n / q.d) 1 false _ (by have := decL_top (lt_top (Nat.div_le_self q.n q.d) HL.out.1); omega) (by decide) HL.out.2.2.2 (over_fit (lt_top (Nat.div_le_self q.n q.d) HL.out.1))).mono ?_
   rintro e w7 ⟨rfl, hbl⟩
   exact hC _ _ hbl fun _ _ => rfl
 case fin =>
  intro a0 w9 hF hB hK
  have b1 := hF.base (k := 1) (by kernel_rfl) rfl
  have b2 := hF.base (k := 2) (by kernel_rfl) rfl
  have hsz := hF.size
  have hdf := hF.defers
  clear hF
  obtain ⟨v14, e14, z14⟩ := known hK 11 (k := 14) (by decide) rfl
  have z14 : v14 = .agg #[.bool r.s, .string (dec r.n), .string (dec r.d), .bool false] := z14
  subst z14
  clear hK
  obtain ⟨⟨l0⟩, df⟩ := a0
  have hs0 : l0.length = 15 := hsz
  clear hsz
  replace hdf : df = _ := hdf
  subst hdf
  obtain ⟨u, rfl⟩ := lits_15 hs0
  clear hs0
  generalize hAr : (Array.mk [u 0, u 1, u 2, u 3, u 4, u 5, u 6, u 7, u 8, u 9, u 10, u 11, u 12, u 13, u 14] : Array Value) = ar
  obtain rfl : ar = #[u 0, u 1, u 2, u 3, u 4, u 5, u 6, u 7, u 8, u 9, u 10, u 11, u 12, u 13, u 14] := hAr.symm
  have q1 : u 1 = _ := Option.some.inj b1
  clear b1
  have q2 : u 2 = _ := Option.some.inj b2
  clear b2
  have q14 : u 14 = _ := Option.some.inj e14
  clear e14
  rw [q1, q2, q14]
  clear q1 q2 q14
  have hbl := hB; clear hB
  replace CX := hmB CX hbl
  replace RES := hmB RES hbl
  replace HW := hmW HW hbl; clear hbl
  clear CX0 CX1 CX2 CX3
  obtain ⟨CX0, CX1, CX2, CX3⟩ := CX.out.cs4
  simp only [List.drop_succ_cons, List.drop_zero]
  obtain ⟨d0, d1, d2, d3⟩ := RES.out.cs4
  obtain ⟨f0, f1, f2, f3⟩ := RES.out.fz4
  go_wp2
  exact bodyPost_ret (results_cell_row rfl _ _ (w.heap.size + 1) 37 _ (0, 0) _ rfl (RES.out.put4 _ _ _ _) Tryz.underlying37 rfl (by kernel_rfl)) rfl ⟨rfl, (bel_set4 (g := w.heap.size + 1) HW.out (by omega) _ _ _ _)⟩
end
end Go.Proofs.YtmbbdjpnecjleaaGreat
namespace Go.Proofs.YtmbbdjpnecjleaaGreat
section
set_option maxRecDepth 100000
set_option maxHeartbeats 1000000
open Go.RowKit

theorem rQuo_free {f : Q} {k : Bool} (a b : Q) (t : Int) (w : World) (hQ : ∀ W, Calls Tryz.prog 127 #[.agg #[.bool a.s, .string (dec a.n), .string (dec a.d), .bool false], .agg #[.bool b.s, .string (dec b.n), .string (dec b.d), .bool false]] W (RetFr f k W)) (hw : wholeB t = false) :
 Calls Tryz.prog 80 #[.agg #[.bool a.s, .string (dec a.n), .string (dec a.d), .bool false], .agg #[.bool b.s, .string (dec b.n), .string (dec b.d), .bool false], .int .i64 t] w (RetFr f k w) := by
 have HQ := Lib.hid hQ; clear hQ
 have KW := Lib.hid (fun W => rWhole_is t W hw); clear hw
 obtain ⟨wa, hwa⟩ : ∃ wa, wa = ((w.alloc (.cells #[.bool a.s, .string (dec a.n), .string (dec a.d), .bool false] 37)).alloc (.cells #[.bool b.s, .string (dec b.n), .string (dec b.d), .bool false] 37)).alloc (.cells #[.bool false, .string ⟨#[]⟩, .string ⟨#[]⟩, .bool false] 37) := ⟨_, rfl⟩
 obtain ⟨hbl, CX, CY, RES⟩ := kal3 hwa
 have HW := Lib.hid hbl; clear hbl
 replace CX := Lib.hid CX
 replace CY := Lib.hid CY
 replace RES := Lib.hid RES
 go_enter Tryz.func80, Tryz.ntmps80
 go_wp2_with fail
 rw [← hwa]
 clear hwa
 obtain ⟨CX0, CX1, CX2, CX3⟩ := CX.out.cs4
 obtain ⟨CY0, CY1, CY2, CY3⟩ := CY.out.cs4
 refine (HQ.out _).mono ?_
 rintro e w1 ⟨rfl, hbl⟩
 replace CX := hmB CX hbl
 replace CY := hmB CY hbl
 replace RES := hmB RES hbl
 replace HW := hmW HW hbl; clear hbl
 clear CX0 CX1 CX2 CX3 CY0 CY1 CY2 CY3
 obtain ⟨CX0, CX1, CX2, CX3⟩ := CX.out.cs4
 obtain ⟨CY0, CY1, CY2, CY3⟩ := CY.out.cs4
 obtain ⟨w3, hw3⟩ : ∃ w3, w3 = w1.alloc (.cells #[.bool f.s, .string (dec f.n), .string (dec f.d), .bool k] 37) := ⟨_, rfl⟩
 have hbl : Below w1.heap.size w1 w3 := by rw [hw3]; exact bel_alloc (bel_refl _) _
 have CF : Blk w3 w1.heap.size 37 #[.bool f.s, .string (dec f.n), .string (dec f.d), .bool k] := by rw [hw3]; exact Blk.new _ _ _
 replace CF := Lib.hid CF
 go_upto_region 2 with fail
 rw [← hw3]
 clear hw3
 replace CX := hmB CX hbl
 replace CY := hmB CY hbl
 replace RES := hmB RES hbl
 replace HW := hmW HW hbl; clear hbl
 clear CX0 CX1 CX2 CX3 CY0 CY1 CY2 CY3
 obtain ⟨CX0, CX1, CX2, CX3⟩ := CX.out.cs4
 obtain ⟨CY0, CY1, CY2, CY3⟩ := CY.out.cs4
 clear CX0 CX1 CX2 CX3 CY0 CY1 CY2 CY3
 obtain ⟨CX0, CX1, CX2, CX3⟩ := CX.out.cs4
 obtain ⟨CY0, CY1, CY2, CY3⟩ := CY.out.cs4
 obtain ⟨CF0, CF1, CF2, CF3⟩ := CF.out.cs4
 go_wp2_with fail
 refine (KW.out _).mono ?_
 rintro e wv ⟨rfl, hwv⟩
 obtain rfl := hwv.symm
 clear hwv
 obtain ⟨d0, d1, d2, d3⟩ := RES.out.cs4
 obtain ⟨f0, f1, f2, f3⟩ := RES.out.fz4
 go_wp2
 exact bodyPost_ret (results_cell_row rfl _ _ (w.heap.size + 2) 37 _ (0, 0) _ rfl (RES.out.put4 _ _ _ _) Tryz.underlying37 rfl (by kernel_rfl)) rfl ⟨rfl, (bel_set4 (g := w.heap.size + 2) HW.out (by omega) _ _ _ _)⟩
theorem rQuo_bad {f : Q} (a b : Q) (t : Int) (w : World) (hQ : ∀ W, Calls Tryz.prog 127 #[.agg #[.bool a.s, .string (dec a.n), .string (dec a.d), .bool false], .agg #[.bool b.s, .string (dec b.n), .string (dec b.d), .bool false]] W (RetFr f true W)) (hw : wholeB t = true) :
 Calls Tryz.prog 80 #[.agg #[.bool a.s, .string (dec a.n), .string (dec a.d), .bool false], .agg #[.bool b.s, .string (dec b.n), .string (dec b.d), .bool false], .int .i64 t] w (RetFr f true w) := by
 have HQ := Lib.hid hQ; clear hQ
 have KW := Lib.hid (fun W => rWhole_is t W hw); clear hw
 obtain ⟨wa, hwa⟩ : ∃ wa, wa = ((w.alloc (.cells #[.bool a.s, .string (dec a.n), .string (dec a.d), .bool false] 37)).alloc (.cells #[.bool b.s, .string (dec b.n), .string (dec b.d), .bool false] 37)).alloc (.cells #[.bool false, .string ⟨#[]⟩, .string ⟨#[]⟩, .bool false] 37) := ⟨_, rfl⟩
 obtain ⟨hbl, CX, CY, RES⟩ := kal3 hwa
 have HW := Lib.hid hbl; clear hbl
 replace CX := Lib.hid CX
 replace CY := Lib.hid CY
 replace RES := Lib.hid RES
 go_enter Tryz.func80, Tryz.ntmps80
 go_wp2_with fail
 rw [← hwa]
 clear hwa
 obtain ⟨CX0, CX1, CX2, CX3⟩ := CX.out.cs4
 obtain ⟨CY0, CY1, CY2, CY3⟩ := CY.out.cs4
 refine (HQ.out _).mono ?_
 rintro e w1 ⟨rfl, hbl⟩
 replace CX := hmB CX hbl
 replace CY := hmB CY hbl
 replace RES := hmB RES hbl
 replace HW := hmW HW hbl; clear hbl
 clear CX0 CX1 CX2 CX3 CY0 CY1 CY2 CY3
 obtain ⟨CX0, CX1, CX2, CX3⟩ := CX.out.cs4
 obtain ⟨CY0, CY1, CY2, CY3⟩ := CY.out.cs4
 obtain ⟨w3, hw3⟩ : ∃ w3, w3 = w1.alloc (.cells #[.bool f.s, .string (dec f.n), .string (dec f.d), .bool true] 37) := ⟨_, rfl⟩
 have hbl : Below w1.heap.size w1 w3 := by rw [hw3]; exact bel_alloc (bel_refl _) _
 have CF : Blk w3 w1.heap.size 37 #[.bool f.s, .string (dec f.n), .string (dec f.d), .bool true] := by rw [hw3]; exact Blk.new _ _ _
 replace CF := Lib.hid CF
 go_upto_region 2 with fail
 rw [← hw3]
 clear hw3
 replace CX := hmB CX hbl
 replace CY := hmB CY hbl
 replace RES := hmB RES hbl
 replace HW := hmW HW hbl; clear hbl
 clear CX0 CX1 CX2 CX3 CY0 CY1 CY2 CY3
 obtain ⟨CX0, CX1, CX2, CX3⟩ := CX.out.cs4
 obtain ⟨CY0, CY1, CY2, CY3⟩ := CY.out.cs4
 clear CX0 CX1 CX2 CX3 CY0 CY1 CY2 CY3
 obtain ⟨CX0, CX1, CX2, CX3⟩ := CX.out.cs4
 obtain ⟨CY0, CY1, CY2, CY3⟩ := CY.out.cs4
 obtain ⟨CF0, CF1, CF2, CF3⟩ := CF.out.cs4
 go_wp2_with fail
 refine (KW.out _).mono ?_
 rintro e wv ⟨rfl, hwv⟩
 obtain rfl := hwv.symm
 clear hwv
 obtain ⟨d0, d1, d2, d3⟩ := RES.out.cs4
 obtain ⟨f0, f1, f2, f3⟩ := RES.out.fz4
 go_wp2
 exact bodyPost_ret (results_cell_row rfl _ _ (w.heap.size + 2) 37 _ (0, 0) _ rfl (RES.out.put4 _ _ _ _) Tryz.underlying37 rfl (by kernel_rfl)) rfl ⟨rfl, (bel_set4 (g := w.heap.size + 2) HW.out (by omega) _ _ _ _)⟩
theorem rQuo_whole {f r : Q} (a b : Q) (t : Int) (w : World) (hQ : ∀ W, Calls Tryz.prog 127 #[.agg #[.bool a.s, .string (dec a.n), .string (dec a.d), .bool false], .agg #[.bool b.s, .string (dec b.n), .string (dec b.d), .bool false]] W (RetFr f false W)) (hw : wholeB t = true) (hn : f.n < Top) (hd : f.d < Top) (h0 : f.d ≠ 0) (hr : redQ f.s (f.n / f.d) 1 = r) :
 Calls Tryz.prog 80 #[.agg #[.bool a.s, .string (dec a.n), .string (dec a.d), .bool false], .agg #[.bool b.s, .string (dec b.n), .string (dec b.d), .bool false], .int .i64 t] w (RetFr r false w) := by
 have HQ := Lib.hid hQ; clear hQ
 have KW := Lib.hid (fun W => rWhole_is t W hw); clear hw
 have HL := Lib.hid (And.intro hn (And.intro hd (And.intro h0 hr))); clear hn hd h0 hr
 obtain ⟨wa, hwa⟩ : ∃ wa, wa = ((w.alloc (.cells #[.bool a.s, .string (dec a.n), .string (dec a.d), .bool false] 37)).alloc (.cells #[.bool b.s, .string (dec b.n), .string (dec b.d), .bool false] 37)).alloc (.cells #[.bool false, .string ⟨#[]⟩, .string ⟨#[]⟩, .bool false] 37) := ⟨_, rfl⟩
 obtain ⟨hbl, CX, CY, RES⟩ := kal3 hwa
 have HW := Lib.hid hbl; clear hbl
 replace CX := Lib.hid CX
 replace CY := Lib.hid CY
 replace RES := Lib.hid RES
 go_enter Tryz.func80, Tryz.ntmps80
 go_wp2_with fail
 rw [← hwa]
 clear hwa
 obtain ⟨CX0, CX1, CX2, CX3⟩ := CX.out.cs4
 obtain ⟨CY0, CY1, CY2, CY3⟩ := CY.out.cs4
 refine (HQ.out _).mono ?_
 rintro e w1 ⟨rfl, hbl⟩
 replace CX := hmB CX hbl
 replace CY := hmB CY hbl
 replace RES := hmB RES hbl
 replace HW := hmW HW hbl; clear hbl
 clear CX0 CX1 CX2 CX3 CY0 CY1 CY2 CY3
 obtain ⟨CX0, CX1, CX2, CX3⟩ := CX.out.cs4
 obtain ⟨CY0, CY1, CY2, CY3⟩ := CY.out.cs4
 obtain ⟨w3, hw3⟩ : ∃ w3, w3 = w1.alloc (.cells #[.bool f.s, .string (dec f.n), .string (dec f.d), .bool false] 37) := ⟨_, rfl⟩
 have hbl : Below w1.heap.size w1 w3 := by rw [hw3]; exact bel_alloc (bel_refl _) _
 have CF : Blk w3 w1.heap.size 37 #[.bool f.s, .string (dec f.n), .string (dec f.d), .bool false] := by rw [hw3]; exact Blk.new _ _ _
 replace CF := Lib.hid CF
 go_upto_region 2 with fail
 rw [← hw3]
 clear hw3
 replace CX := hmB CX hbl
 replace CY := hmB CY hbl
 replace RES := hmB RES hbl
 replace HW := hmW HW hbl; clear hbl
 clear CX0 CX1 CX2 CX3 CY0 CY1 CY2 CY3
 obtain ⟨CX0, CX1, CX2, CX3⟩ := CX.out.cs4
 obtain ⟨CY0, CY1, CY2, CY3⟩ := CY.out.cs4
 clear CX0 CX1 CX2 CX3 CY0 CY1 CY2 CY3
 obtain ⟨CX0, CX1, CX2, CX3⟩ := CX.out.cs4
 obtain ⟨CY0, CY1, CY2, CY3⟩ := CY.out.cs4
 obtain ⟨CF0, CF1, CF2, CF3⟩ := CF.out.cs4
 go_wp2_with fail
 refine (KW.out _).mono ?_
 rintro e wv ⟨rfl, hwv⟩
 obtain rfl := hwv.symm
 clear hwv
 go_wp2_with fail
 refine (rTrunc_is f _ HL.out.1 HL.out.2.1 HL.out.2.2.1 HL.out.2.2.2).mono ?_
 rintro e w2 ⟨rfl, hbl⟩
 replace CX := hmB CX hbl
 replace CY := hmB CY hbl
 replace RES := hmB RES hbl
 replace CF := hmB CF hbl
 replace HW := hmW HW hbl; clear hbl
 clear CX0 CX1 CX2 CX3 CY0 CY1 CY2 CY3 CF0 CF1 CF2 CF3
 obtain ⟨CX0, CX1, CX2, CX3⟩ := CX.out.cs4
 obtain ⟨CY0, CY1, CY2, CY3⟩ := CY.out.cs4
 obtain ⟨CF0, CF1, CF2, CF3⟩ := CF.out.cs4
 obtain ⟨d0, d1, d2, d3⟩ := RES.out.cs4
 obtain ⟨f0, f1, f2, f3⟩ := RES.out.fz4
 go_wp2
 exact bodyPost_ret (results_cell_row rfl _ _ (w.heap.size + 2) 37 _ (0, 0) _ rfl (RES.out.put4 _ _ _ _) Tryz.underlying37 rfl (by kernel_rfl)) rfl ⟨rfl, (bel_set4 (g := w.heap.size + 2) HW.out (by omega) _ _ _ _)⟩
end
end Go.Proofs.YtmbbdjpnecjleaaGreat
namespace Go.Proofs.YtmbbdjpnecjleaaGreat
section
set_option maxRecDepth 100000
set_option maxHeartbeats 1000000
open Go.RowKit

structure Ans (q f : Q) (e : Int) (k : Bool) : Prop where
 over : k = true → q = noQ ∧ e = 2
 fine : k = false → q = f ∧ e = 0 ∧ f.n < Top ∧ f.d < Top ∧ QR f
theorem sumQ_fit {s s' : Bool} {x y z : Nat} (hx : x < Top) (hy : y < Top) (hxy : x + y < Top) (hz : z < Top) (h0 : z ≠ 0) : (sumQ s s' x y z).n < Top ∧ (sumQ s s' x y z).d < Top ∧ QR (sumQ s s' x y z) := by
 unfold sumQ
 split
 · exact redQ_fit hxy hz h0 rfl
 · split
   · exact redQ_fit (lt_top (Nat.sub_le _ _) hy) hz h0 rfl
   · exact redQ_fit (lt_top (Nat.sub_le _ _) hx) hz h0 rfl
theorem ans_add (a b : Q) (l : Bool) (ha : a.d ≠ 0) (hb : b.d ≠ 0) : ∃ q e, Ans q (sumQ a.s (b.s != l) (a.n * b.d) (b.n * a.d) (a.d * b.d)) e (decide (Top ≤ a.n * b.d + b.n * a.d) || decide (Top ≤ a.d * b.d)) ∧
 (¬ (a.n * b.d < Top ∧ b.n * a.d < Top ∧ a.d * b.d < Top ∧ a.n * b.d + b.n * a.d < Top) → q = noQ ∧ e = 2) ∧ (a.n * b.d < Top → b.n * a.d < Top → a.d * b.d < Top → a.n * b.d + b.n * a.d < Top → sumQ a.s (b.s != l) (a.n * b.d) (b.n * a.d) (a.d * b.d) = q ∧ e = 0) := by
 by_cases h : a.n * b.d < Top ∧ b.n * a.d < Top ∧ a.d * b.d < Top ∧ a.n * b.d + b.n * a.d < Top
 · refine ⟨_, 0, ⟨fun hk => ?_, fun _ => ⟨rfl, rfl, sumQ_fit h.1 h.2.1 h.2.2.2 h.2.2.1 (den_ne ha hb)⟩⟩, fun h' => absurd h h', fun _ _ _ _ => ⟨rfl, rfl⟩⟩
   rw [decide_eq_false (by omega), decide_eq_false (by omega)] at hk
   cases hk
 · refine ⟨noQ, 2, ⟨fun _ => ⟨rfl, rfl⟩, fun hk => ?_⟩, fun _ => ⟨rfl, rfl⟩, fun h1 h2 h3 h4 => absurd ⟨h1, h2, h3, h4⟩ h⟩
   rw [Bool.or_eq_false_iff] at hk
   have h1 := of_decide_eq_false hk.1
   have h2 := of_decide_eq_false hk.2
   exact absurd ⟨by omega, by omega, by omega, by omega⟩ h
theorem ans_red (s : Bool) (x y : Nat) (hy : y ≠ 0) : ∃ q e, Ans q (redQ s x y) e (overB false x y) ∧ (¬ (x < Top ∧ y < Top) → q = noQ ∧ e = 2) ∧ (x < Top → y < Top → redQ s x y = q ∧ e = 0) := by
 unfold overB
 by_cases h : x < Top ∧ y < Top
 · refine ⟨_, 0, ⟨fun hk => ?_, fun _ => ⟨rfl, rfl, redQ_fit h.1 h.2 hy rfl⟩⟩, fun h' => absurd h h', fun _ _ => ⟨rfl, rfl⟩⟩
   rw [decide_eq_false (by omega), decide_eq_false (by omega)] at hk
   cases hk
 · refine ⟨noQ, 2, ⟨fun _ => ⟨rfl, rfl⟩, fun hk => ?_⟩, fun _ => ⟨rfl, rfl⟩, fun h1 h2 => absurd ⟨h1, h2⟩ h⟩
   rw [Bool.false_or, Bool.or_eq_false_iff] at hk
   have h1 := of_decide_eq_false hk.1
   have h2 := of_decide_eq_false hk.2
   exact absurd ⟨by omega, by omega⟩ h
end
end Go.Proofs.YtmbbdjpnecjleaaGreat
namespace Go.Proofs.YtmbbdjpnecjleaaGreat
section
set_option maxRecDepth 100000
set_option maxHeartbeats 1000000
open Go.RowKit

def Fit (q : Q) : Prop := q.n < Top ∧ q.d < Top ∧ QR q
def cpG (i : Nat) : Nat → Nat → Nat → Nat → Nat → Nat → Array Value := fun g1 g2 g3 g4 g5 g6 => #[.pointer (some ⟨if i = 1 then g1 else if i = 2 then g2 else if i = 3 then g3 else if i = 4 then g4 else if i = 5 then g5 else g6, 0, none⟩)]
def cpN : Nat → Nat → Nat → Nat → Nat → Nat → Array Value := fun _ _ _ _ _ _ => #[]
theorem app1 (x y z p : Value) : #[x, y, z] ++ #[p] = #[x, y, z, p] := rfl
theorem app0 (x y z : Value) : #[x, y, z] ++ #[] = #[x, y, z] := rfl
theorem does_add {q : Q} {e : Int} (a b : Q) (t : Int) (ha : Fit a) (hb : Fit b) (hov : ¬ (a.n * b.d < Top ∧ b.n * a.d < Top ∧ a.d * b.d < Top ∧ a.n * b.d + b.n * a.d < Top) → q = noQ ∧ e = 2) (hok : a.n * b.d < Top → b.n * a.d < Top → a.d * b.d < Top → a.n * b.d + b.n * a.d < Top → sumQ a.s (b.s != false) (a.n * b.d) (b.n * a.d) (a.d * b.d) = q ∧ e = 0) : DoesQ 95 (cpG 1) a b t q e := by
 intro W g1 g2 g3 g4 g5 g6 A B A' B' c d c' d' hO h1 h2 h3 h4 k1 k2 k3 k4
 rw [show cpG 1 g1 g2 g3 g4 g5 g6 = #[.pointer (some ⟨g1, 0, none⟩)] from rfl, app1]
 exact kDrop_add g1 t a b A B A' B' c d c' d' W hO.1 (fun W' hb' => add_of _ _ _ _ _ _ _ _ _ _ _ _ _ _ W' (fun w1 hb1 => add_walk false A B A' B' c d c' d' a b w1 ((h1.below hb').below hb1) ((h2.below hb').below hb1) ((h3.below hb').below hb1) ((h4.below hb').below hb1) k1 k2 k3 k4 ha.1 ha.2.1 hb.1 hb.2.1 ha.2.2 hb.2.2 hov hok))
theorem does_sub {q : Q} {e : Int} (a b : Q) (t : Int) (ha : Fit a) (hb : Fit b) (hov : ¬ (a.n * b.d < Top ∧ b.n * a.d < Top ∧ a.d * b.d < Top ∧ a.n * b.d + b.n * a.d < Top) → q = noQ ∧ e = 2) (hok : a.n * b.d < Top → b.n * a.d < Top → a.d * b.d < Top → a.n * b.d + b.n * a.d < Top → sumQ a.s (b.s != true) (a.n * b.d) (b.n * a.d) (a.d * b.d) = q ∧ e = 0) : DoesQ 95 (cpG 2) a b t q e := by
 intro W g1 g2 g3 g4 g5 g6 A B A' B' c d c' d' hO h1 h2 h3 h4 k1 k2 k3 k4
 rw [show cpG 2 g1 g2 g3 g4 g5 g6 = #[.pointer (some ⟨g2, 0, none⟩)] from rfl, app1]
 exact kDrop_sub g2 t a b A B A' B' c d c' d' W hO.2.1 (fun W' hb' => sub_of _ _ _ _ _ _ _ _ _ _ _ _ _ _ W' (fun w1 hb1 => add_walk true A B A' B' c d c' d' a b w1 ((h1.below hb').below hb1) ((h2.below hb').below hb1) ((h3.below hb').below hb1) ((h4.below hb').below hb1) k1 k2 k3 k4 ha.1 ha.2.1 hb.1 hb.2.1 ha.2.2 hb.2.2 hov hok))
theorem does_mul {q : Q} {e : Int} (a b : Q) (t : Int) (ha : Fit a) (hb : Fit b) (hov : ¬ (a.n * b.n < Top ∧ a.d * b.d < Top) → q = noQ ∧ e = 2) (hok : a.n * b.n < Top → a.d * b.d < Top → redQ (a.s != b.s) (a.n * b.n) (a.d * b.d) = q ∧ e = 0) : DoesQ 95 (cpG 3) a b t q e := by
 intro W g1 g2 g3 g4 g5 g6 A B A' B' c d c' d' hO h1 h2 h3 h4 k1 k2 k3 k4
 rw [show cpG 3 g1 g2 g3 g4 g5 g6 = #[.pointer (some ⟨g3, 0, none⟩)] from rfl, app1]
 exact kDrop_mul g3 t a b A B A' B' c d c' d' W hO.2.2.1 (fun W' hb' => mul_walk A B A' B' c d c' d' a b W' (h1.below hb') (h2.below hb') (h3.below hb') (h4.below hb') k1 k2 k3 k4 ha.1 ha.2.1 hb.1 hb.2.1 ha.2.2 hb.2.2 hov hok)
theorem kQuo_nil (a b : Q) (t : Int) (ha : Fit a) (hb : Fit b) (h0 : b.n = 0) : ∀ W A B A' B' c d c' d', RdL W A (limbs a.n) → RdL W B (limbs a.d) → RdL W A' (limbs b.n) → RdL W B' (limbs b.d) → (limbs a.n).length ≤ c → (limbs a.d).length ≤ d → (limbs b.n).length ≤ c' → (limbs b.d).length ≤ d' → Calls Tryz.prog 57 #[.agg #[.bool a.s, .slice A (limbs a.n).length c, .slice B (limbs a.d).length d], .agg #[.bool b.s, .slice A' (limbs b.n).length c', .slice B' (limbs b.d).length d'], .int .i64 t] W (RetQE noQ 4 W) := fun W A B A' B' c d c' d' h1 h2 h3 h4 k1 k2 k3 k4 =>
 kQuo_bad t a b A B A' B' c d c' d' W h1 h2 h3 h4 k1 k2 k3 k4 (fun W A B A' B' c d c' d' h1 h2 h3 h4 k1 k2 k3 k4 => quo_zero A B A' B' c d c' d' a b W h1 h2 h3 h4 k1 k2 k3 k4 ha.1 ha.2.1 hb.1 hb.2.1 ha.2.2 hb.2.2 h0) (by decide)
theorem dec_short {n k : Nat} (h : n < Top) (hk : 160 ≤ k) : (decL n).length ≤ k := by have := decL_top h; omega
theorem quo_ex (a b : Q) (t : Int) (ha : Fit a) (hb : Fit b) (h0 : b.n ≠ 0) : ∃ q e f k, Ans q f e k ∧ (∀ W A B A' B' c d c' d', RdL W A (limbs a.n) → RdL W B (limbs a.d) → RdL W A' (limbs b.n) → RdL W B' (limbs b.d) → (limbs a.n).length ≤ c → (limbs a.d).length ≤ d → (limbs b.n).length ≤ c' → (limbs b.d).length ≤ d' → Calls Tryz.prog 57 #[.agg #[.bool a.s, .slice A (limbs a.n).length c, .slice B (limbs a.d).length d], .agg #[.bool b.s, .slice A' (limbs b.n).length c', .slice B' (limbs b.d).length d'], .int .i64 t] W (RetQE q e W)) ∧ (∀ W, Calls Tryz.prog 80 #[.agg #[.bool a.s, .string (dec a.n), .string (dec a.d), .bool false], .agg #[.bool b.s, .string (dec b.n), .string (dec b.d), .bool false], .int .i64 t] W (RetFr f k W)) ∧ (wholeB t = true → a.d = 1 → b.d = 1 → k = false ∧ f = ⟨decide (a.n / b.n ≠ 0) && (a.s != b.s), a.n / b.n, 1⟩) := by
 obtain ⟨q, e, hA, hov, hok⟩ := ans_red (a.s != b.s) (a.n * b.d) (a.d * b.n) (Nat.mul_ne_zero ha.2.2.den h0)
 have hP : ∀ W A B A' B' c d c' d', RdL W A (limbs a.n) → RdL W B (limbs a.d) → RdL W A' (limbs b.n) → RdL W B' (limbs b.d) → (limbs a.n).length ≤ c → (limbs a.d).length ≤ d → (limbs b.n).length ≤ c' → (limbs b.d).length ≤ d' → Calls Tryz.prog 101 #[.agg #[.bool a.s, .slice A (limbs a.n).length c, .slice B (limbs a.d).length d], .agg #[.bool b.s, .slice A' (limbs b.n).length c', .slice B' (limbs b.d).length d']] W (RetQE q e W) := fun W A B A' B' c d c' d' h1 h2 h3 h4 k1 k2 k3 k4 => quo_walk A B A' B' c d c' d' a b W h1 h2 h3 h4 k1 k2 k3 k4 ha.1 ha.2.1 hb.1 hb.2.1 ha.2.2 hb.2.2 h0 hov hok
 have hR : ∀ W, Calls Tryz.prog 127 #[.agg #[.bool a.s, .string (dec a.n), .string (dec a.d), .bool false], .agg #[.bool b.s, .string (dec b.n), .string (dec b.d), .bool false]] W (RetFr (redQ (a.s != b.s) (a.n * b.d) (a.d * b.n)) (overB false (a.n * b.d) (a.d * b.n)) W) := fun W => ref_quo a b W (dec_short ha.1 (by decide)) (dec_short ha.2.1 (by decide)) (dec_short hb.1 (by decide)) (dec_short hb.2.1 (by decide)) rfl rfl
 have hW : a.d = 1 → b.d = 1 → overB false (a.n * b.d) (a.d * b.n) = false ∧ (redQ (a.s != b.s) (a.n * b.d) (a.d * b.n)).n / (redQ (a.s != b.s) (a.n * b.d) (a.d * b.n)).d = a.n / b.n ∧ (a.n / b.n ≠ 0 → (redQ (a.s != b.s) (a.n * b.d) (a.d * b.n)).s = (a.s != b.s)) := by
  intro e1 e2
  rw [e1, e2, Nat.mul_one, Nat.one_mul]
  have g1 := ha.1
  have g2 := hb.1
  refine ⟨by unfold overB; rw [decide_eq_false (by omega), decide_eq_false (by omega)]; rfl, ?_, ?_⟩
  · unfold redQ
    split
    · rename_i hz
      rw [hz, Nat.zero_div, Nat.zero_div]
    · show a.n / Nat.gcd a.n b.n / (b.n / Nat.gcd a.n b.n) = a.n / b.n
      rw [Nat.div_div_eq_div_mul, Nat.mul_div_cancel' (Nat.gcd_dvd_right _ _)]
  · intro hz
    unfold redQ
    rw [if_neg (by rintro e; rw [e, Nat.zero_div] at hz; exact hz rfl)]
 generalize redQ (a.s != b.s) (a.n * b.d) (a.d * b.n) = f at *
 generalize overB false (a.n * b.d) (a.d * b.n) = k at *
 clear hov hok
 cases hw : wholeB t
 · refine ⟨q, e, f, k, hA, ?_, fun W => rQuo_free a b t W hR hw, fun h => by cases h⟩
   intro W A B A' B' c d c' d' h1 h2 h3 h4 k1 k2 k3 k4
   cases k
   · obtain ⟨rfl, rfl, -, -, -⟩ := hA.fine rfl
     exact kQuo_free t a b A B A' B' c d c' d' W h1 h2 h3 h4 k1 k2 k3 k4 hP hw
   · obtain ⟨rfl, rfl⟩ := hA.over rfl
     exact kQuo_bad t a b A B A' B' c d c' d' W h1 h2 h3 h4 k1 k2 k3 k4 hP (by decide)
 · cases k
   · obtain ⟨rfl, rfl, f1, f2, f3⟩ := hA.fine rfl
     have hfit := redQ_fit (s := q.s) (n := q.n / q.d) (d := 1) (lt_top (Nat.div_le_self _ _) f1) (by decide +kernel) (by decide) rfl
     refine ⟨_, 0, _, false, ⟨(fun h => nomatch h), fun _ => ⟨rfl, rfl, hfit⟩⟩, ?_, fun W => rQuo_whole a b t W hR hw f1 f2 f3.den rfl, fun _ e1 e2 => ⟨rfl, ?_⟩⟩
     rotate_left
     · obtain ⟨-, h1, h2⟩ := hW e1 e2
       rw [h1]
       unfold redQ
       split
       · rename_i hz
         rw [hz]; simp
       · rename_i hz
         rw [Nat.gcd_one_right, Nat.div_one, Nat.div_one, h2 hz, decide_eq_true hz, Bool.true_and]
     intro W A B A' B' c d c' d' h1 h2 h3 h4 k1 k2 k3 k4
     exact kQuo_whole t a b A B A' B' c d c' d' W h1 h2 h3 h4 k1 k2 k3 k4 hP hw f1 f2 f3 rfl
   · obtain ⟨rfl, rfl⟩ := hA.over rfl
     refine ⟨noQ, 2, f, true, ⟨fun _ => ⟨rfl, rfl⟩, (fun h => nomatch h)⟩, ?_, fun W => rQuo_bad a b t W hR hw, fun _ e1 e2 => absurd (hW e1 e2).1 (by decide)⟩
     intro W A B A' B' c d c' d' h1 h2 h3 h4 k1 k2 k3 k4
     exact kQuo_bad t a b A B A' B' c d c' d' W h1 h2 h3 h4 k1 k2 k3 k4 hP (by decide)
theorem does_quo {q : Q} {e : Int} (a b : Q) (t : Int) (h : ∀ W A B A' B' c d c' d', RdL W A (limbs a.n) → RdL W B (limbs a.d) → RdL W A' (limbs b.n) → RdL W B' (limbs b.d) → (limbs a.n).length ≤ c → (limbs a.d).length ≤ d → (limbs b.n).length ≤ c' → (limbs b.d).length ≤ d' → Calls Tryz.prog 57 #[.agg #[.bool a.s, .slice A (limbs a.n).length c, .slice B (limbs a.d).length d], .agg #[.bool b.s, .slice A' (limbs b.n).length c', .slice B' (limbs b.d).length d'], .int .i64 t] W (RetQE q e W)) : DoesQ 57 cpN a b t q e := by
 intro W g1 g2 g3 g4 g5 g6 A B A' B' c d c' d' hO h1 h2 h3 h4 k1 k2 k3 k4
 rw [show cpN g1 g2 g3 g4 g5 g6 = #[] from rfl, app0]
 exact h W A B A' B' c d c' d' h1 h2 h3 h4 k1 k2 k3 k4
theorem does_left_bad {q : Q} {e : Int} (a b : Q) (t : Int) (hQ : ∀ W A B A' B' c d c' d', RdL W A (limbs a.n) → RdL W B (limbs a.d) → RdL W A' (limbs b.n) → RdL W B' (limbs b.d) → (limbs a.n).length ≤ c → (limbs a.d).length ≤ d → (limbs b.n).length ≤ c' → (limbs b.d).length ≤ d' → Calls Tryz.prog 57 #[.agg #[.bool a.s, .slice A (limbs a.n).length c, .slice B (limbs a.d).length d], .agg #[.bool b.s, .slice A' (limbs b.n).length c', .slice B' (limbs b.d).length d'], .int .i64 t] W (RetQE q e W)) (he : ¬ e = 0) : DoesQ 58 cpN a b t q e := by
 intro W g1 g2 g3 g4 g5 g6 A B A' B' c d c' d' hO h1 h2 h3 h4 k1 k2 k3 k4
 rw [show cpN g1 g2 g3 g4 g5 g6 = #[] from rfl, app0]
 exact kLeft_bad t a b A B A' B' c d c' d' W h1 h2 h3 h4 k1 k2 k3 k4 hQ he
theorem does_left_fit {q p r : Q} {e : Int} (a b : Q) (t : Int) (hQ : ∀ W A B A' B' c d c' d', RdL W A (limbs a.n) → RdL W B (limbs a.d) → RdL W A' (limbs b.n) → RdL W B' (limbs b.d) → (limbs a.n).length ≤ c → (limbs a.d).length ≤ d → (limbs b.n).length ≤ c' → (limbs b.d).length ≤ d' → Calls Tryz.prog 57 #[.agg #[.bool a.s, .slice A (limbs a.n).length c, .slice B (limbs a.d).length d], .agg #[.bool b.s, .slice A' (limbs b.n).length c', .slice B' (limbs b.d).length d'], .int .i64 t] W (RetQE q 0 W)) (hM : ∀ W A B A' B' c d c' d', RdL W A (limbs q.n) → RdL W B (limbs q.d) → RdL W A' (limbs b.n) → RdL W B' (limbs b.d) → (limbs q.n).length ≤ c → (limbs q.d).length ≤ d → (limbs b.n).length ≤ c' → (limbs b.d).length ≤ d' → Calls Tryz.prog 56 #[.agg #[.bool q.s, .slice A (limbs q.n).length c, .slice B (limbs q.d).length d], .agg #[.bool b.s, .slice A' (limbs b.n).length c', .slice B' (limbs b.d).length d']] W (RetQE p 0 W)) (hS : ∀ W A B A' B' c d c' d', RdL W A (limbs a.n) → RdL W B (limbs a.d) → RdL W A' (limbs p.n) → RdL W B' (limbs p.d) → (limbs a.n).length ≤ c → (limbs a.d).length ≤ d → (limbs p.n).length ≤ c' → (limbs p.d).length ≤ d' → Calls Tryz.prog 55 #[.agg #[.bool a.s, .slice A (limbs a.n).length c, .slice B (limbs a.d).length d], .agg #[.bool p.s, .slice A' (limbs p.n).length c', .slice B' (limbs p.d).length d']] W (RetQE r e W)) : DoesQ 58 cpN a b t r e := by
 intro W g1 g2 g3 g4 g5 g6 A B A' B' c d c' d' hO h1 h2 h3 h4 k1 k2 k3 k4
 rw [show cpN g1 g2 g3 g4 g5 g6 = #[] from rfl, app0]
 exact kLeft_fit t a b A B A' B' c d c' d' W h1 h2 h3 h4 k1 k2 k3 k4 hQ (fun W E F c d g1 g2 g3 g4 A' B' c' d' g5 g6 g7 g8 => hM W E F A' B' c d c' d' g1 g2 g5 g6 g3 g4 g7 g8) (fun W A B c d g1 g2 g3 g4 E F c' d' g5 g6 g7 g8 => hS W A B E F c d c' d' g1 g2 g5 g6 g3 g4 g7 g8)
theorem does_bit1 {r : Q} (a b : Q) (t : Int) (ha : Fit a) (hb : Fit b) (hs : a.s = false) (hs' : b.s = false) (hr : redQ false (bop 0 a.n b.n) 1 = r) : DoesQ 103 (cpG 4) a b t r 0 := by
 intro W g1 g2 g3 g4 g5 g6 A B A' B' c d c' d' hO h1 h2 h3 h4 k1 k2 k3 k4
 rw [show cpG 4 g1 g2 g3 g4 g5 g6 = #[.pointer (some ⟨g4, 0, none⟩)] from rfl, app1]
 refine kBitly_1 g4 t a b A B A' B' c d c' d' W hO.2.2.2.1 (fun W' hb' => ?_)
 rw [hs, hs']
 have hz : lval (zipL (bop 0) (limbs a.n) (limbs b.n) (max (limbs a.n).length (limbs b.n).length)) = bop 0 a.n b.n := limbs_zip (bop_zero 0) (bop_cut 0) a.n b.n
 exact kBitw_fit 60 a b A B A' B' c d c' d' W' (h1.below hb') (h3.below hb') ha.1 hb.1 kOp1_enter (fun x y W h h' => kOp1_is x y W h h') (fun x y h h' => bop_lt 0 (n := 32) h h') (by rw [hz]; exact hr)
theorem does_neg1 (a b : Q) (t : Int) (hs : a.s = true ∨ b.s = true) : DoesQ 103 (cpG 4) a b t noQ 2 := by
 intro W g1 g2 g3 g4 g5 g6 A B A' B' c d c' d' hO h1 h2 h3 h4 k1 k2 k3 k4
 rw [show cpG 4 g1 g2 g3 g4 g5 g6 = #[.pointer (some ⟨g4, 0, none⟩)] from rfl, app1]
 refine kBitly_1 g4 t a b A B A' B' c d c' d' W hO.2.2.2.1 (fun W' hb' => ?_)
 cases ea : a.s
 · rw [hs.resolve_left (by rw [ea]; decide)]
   exact kBitw_negb 60 a b A B A' B' c d c' d' W'
 · exact kBitw_nega 60 a b A B A' B' c d c' d' W'
theorem does_bit2 {r : Q} (a b : Q) (t : Int) (ha : Fit a) (hb : Fit b) (hs : a.s = false) (hs' : b.s = false) (hr : redQ false (bop 1 a.n b.n) 1 = r) : DoesQ 103 (cpG 5) a b t r 0 := by
 intro W g1 g2 g3 g4 g5 g6 A B A' B' c d c' d' hO h1 h2 h3 h4 k1 k2 k3 k4
 rw [show cpG 5 g1 g2 g3 g4 g5 g6 = #[.pointer (some ⟨g5, 0, none⟩)] from rfl, app1]
 refine kBitly_2 g5 t a b A B A' B' c d c' d' W hO.2.2.2.2.1 (fun W' hb' => ?_)
 rw [hs, hs']
 have hz : lval (zipL (bop 1) (limbs a.n) (limbs b.n) (max (limbs a.n).length (limbs b.n).length)) = bop 1 a.n b.n := limbs_zip (bop_zero 1) (bop_cut 1) a.n b.n
 exact kBitw_fit 61 a b A B A' B' c d c' d' W' (h1.below hb') (h3.below hb') ha.1 hb.1 kOp2_enter (fun x y W h h' => kOp2_is x y W h h') (fun x y h h' => bop_lt 1 (n := 32) h h') (by rw [hz]; exact hr)
theorem does_neg2 (a b : Q) (t : Int) (hs : a.s = true ∨ b.s = true) : DoesQ 103 (cpG 5) a b t noQ 2 := by
 intro W g1 g2 g3 g4 g5 g6 A B A' B' c d c' d' hO h1 h2 h3 h4 k1 k2 k3 k4
 rw [show cpG 5 g1 g2 g3 g4 g5 g6 = #[.pointer (some ⟨g5, 0, none⟩)] from rfl, app1]
 refine kBitly_2 g5 t a b A B A' B' c d c' d' W hO.2.2.2.2.1 (fun W' hb' => ?_)
 cases ea : a.s
 · rw [hs.resolve_left (by rw [ea]; decide)]
   exact kBitw_negb 61 a b A B A' B' c d c' d' W'
 · exact kBitw_nega 61 a b A B A' B' c d c' d' W'
theorem does_bit3 {r : Q} (a b : Q) (t : Int) (ha : Fit a) (hb : Fit b) (hs : a.s = false) (hs' : b.s = false) (hr : redQ false (bop 2 a.n b.n) 1 = r) : DoesQ 103 (cpG 6) a b t r 0 := by
 intro W g1 g2 g3 g4 g5 g6 A B A' B' c d c' d' hO h1 h2 h3 h4 k1 k2 k3 k4
 rw [show cpG 6 g1 g2 g3 g4 g5 g6 = #[.pointer (some ⟨g6, 0, none⟩)] from rfl, app1]
 refine kBitly_3 g6 t a b A B A' B' c d c' d' W hO.2.2.2.2.2 (fun W' hb' => ?_)
 rw [hs, hs']
 have hz : lval (zipL (bop 2) (limbs a.n) (limbs b.n) (max (limbs a.n).length (limbs b.n).length)) = bop 2 a.n b.n := limbs_zip (bop_zero 2) (bop_cut 2) a.n b.n
 exact kBitw_fit 62 a b A B A' B' c d c' d' W' (h1.below hb') (h3.below hb') ha.1 hb.1 kOp3_enter (fun x y W h h' => kOp3_is x y W h h') (fun x y h h' => bop_lt 2 (n := 32) h h') (by rw [hz]; exact hr)
theorem does_neg3 (a b : Q) (t : Int) (hs : a.s = true ∨ b.s = true) : DoesQ 103 (cpG 6) a b t noQ 2 := by
 intro W g1 g2 g3 g4 g5 g6 A B A' B' c d c' d' hO h1 h2 h3 h4 k1 k2 k3 k4
 rw [show cpG 6 g1 g2 g3 g4 g5 g6 = #[.pointer (some ⟨g6, 0, none⟩)] from rfl, app1]
 refine kBitly_3 g6 t a b A B A' B' c d c' d' W hO.2.2.2.2.2 (fun W' hb' => ?_)
 cases ea : a.s
 · rw [hs.resolve_left (by rw [ea]; decide)]
   exact kBitw_negb 62 a b A B A' B' c d c' d' W'
 · exact kBitw_nega 62 a b A B A' B' c d c' d' W'
end
end Go.Proofs.YtmbbdjpnecjleaaGreat
namespace Go.Proofs.YtmbbdjpnecjleaaGreat
section
set_option maxRecDepth 100000
set_option maxHeartbeats 1000000
open Go.RowKit

theorem bop_low (k a b i : Nat) : bop k (a % 2 ^ (i + 1)) (b % 2 ^ (i + 1)) = bop k (a % 2 ^ i) (b % 2 ^ i) + 2 ^ i * bop k (a / 2 ^ i % 2) (b / 2 ^ i % 2) := by
 have ha : a % 2 ^ (i + 1) = a % 2 ^ i + 2 ^ i * (a / 2 ^ i % 2) := Nat.mod_pow_succ
 have hb : b % 2 ^ (i + 1) = b % 2 ^ i + 2 ^ i * (b / 2 ^ i % 2) := Nat.mod_pow_succ
 have hA : a % 2 ^ i < 2 ^ i := Nat.mod_lt _ (Nat.pow_pos (by decide))
 have hB : b % 2 ^ i < 2 ^ i := Nat.mod_lt _ (Nat.pow_pos (by decide))
 rw [ha, hb]
 apply Nat.eq_of_testBit_eq
 intro j
 have hz := bop_lt k hA hB
 rw [Nat.add_comm (bop k _ _), Nat.testBit_two_pow_mul_add _ hz]
 have e1 : (a % 2 ^ i + 2 ^ i * (a / 2 ^ i % 2)).testBit j = if j < i then (a % 2 ^ i).testBit j else (a / 2 ^ i % 2).testBit (j - i) := by rw [Nat.add_comm, Nat.testBit_two_pow_mul_add _ hA]
 have e2 : (b % 2 ^ i + 2 ^ i * (b / 2 ^ i % 2)).testBit j = if j < i then (b % 2 ^ i).testBit j else (b / 2 ^ i % 2).testBit (j - i) := by rw [Nat.add_comm, Nat.testBit_two_pow_mul_add _ hB]
 unfold bop
 split
 · rw [Nat.testBit_and, e1, e2]
   split <;> rw [Nat.testBit_and]
 · split
   · rw [Nat.testBit_or, e1, e2]
     split <;> rw [Nat.testBit_or]
   · rw [Nat.testBit_xor, e1, e2]
     split <;> rw [Nat.testBit_xor]
end
end Go.Proofs.YtmbbdjpnecjleaaGreat
namespace Go.Proofs.YtmbbdjpnecjleaaGreat
section
set_option maxRecDepth 100000
set_option maxHeartbeats 1000000
open Go.RowKit

end
end Go.Proofs.YtmbbdjpnecjleaaGreat
namespace Go.Proofs.YtmbbdjpnecjleaaGreat
section
set_option maxRecDepth 100000
set_option maxHeartbeats 1000000
open Go.RowKit

end
end Go.Proofs.YtmbbdjpnecjleaaGreat
namespace Go.Proofs.YtmbbdjpnecjleaaGreat
section
set_option maxRecDepth 100000
set_option maxHeartbeats 1000000
section
open Go.RowKit

def RetF3 (n d : Nat) (w : World) (e : Ending) (w' : World) : Prop := e = .returned (.agg #[.string (dec n), .string (dec d)]) ∧ Below w.heap.size w w'
end
section
open Go.RowKit

def VNewF3 (B : Nat) (t : TypeId) (cs : Array Value) : World → Value → Prop := fun w v => ∃ g, v = .pointer (some ⟨g, 0, none⟩) ∧ B ≤ g ∧ Blk w g t cs
theorem VNewF3.lift (B : Nat) (t : TypeId) (cs : Array Value) : LiftP (VNewF3 B t cs) := fun _ _ _ ⟨g, h, h2, hb⟩ hbl => ⟨g, h, h2, hb.below hbl hb.lt⟩
theorem RetF3.is {n d n' d' : Nat} {w : World} {e : Ending} {w' : World} (h : RetF3 n d w e w') (hn : n = n') (hd : d = d') : RetF3 n' d' w e w' := by subst hn hd; exact h
end
end
end Go.Proofs.YtmbbdjpnecjleaaGreat
namespace Go.Proofs.YtmbbdjpnecjleaaGreat
section
set_option maxRecDepth 100000
set_option maxHeartbeats 1000000
open Go.RowKit

theorem cmp_v {a b : Nat} {v : Int} (h : cmpI (a : Int) (b : Int) = v) (w : World) : Calls Tryz.prog 20 #[.string (dec a), .string (dec b)] w (RetIB v w) := by rw [← h]; exact refCmp_bb a b w
theorem cmpI_lt0 {a b : Nat} : cmpI (a : Int) (b : Int) < 0 ↔ a < b := by
 rw [cmpI_nat]
 split
 · omega
 · split <;> omega
end
end Go.Proofs.YtmbbdjpnecjleaaGreat
namespace Go.Proofs.YtmbbdjpnecjleaaGreat
section
set_option maxRecDepth 100000
set_option maxHeartbeats 1000000
open Go.RowKit

end
end Go.Proofs.YtmbbdjpnecjleaaGreat
