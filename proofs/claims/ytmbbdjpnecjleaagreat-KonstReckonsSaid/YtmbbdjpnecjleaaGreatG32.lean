/-
 Parts: RoDN.
-/
import Derived.Test.YtmbbdjpnecjleaaGreatG28
import Derived.Test.YtmbbdjpnecjleaaGreatG16
namespace Go.Proofs.YtmbbdjpnecjleaaGreat
section
set_option maxRecDepth 100000
set_option maxHeartbeats 1000000
section
open Go.RowKit

theorem cmpI_pos {a b : Nat} : 0 < cmpI (a : Int) (b : Int) ↔ b < a := by
 unfold cmpI
 split
 · omega
 · split <;> omega
theorem cmpI_zero {a b : Nat} : cmpI (a : Int) (b : Int) = 0 ↔ a = b := by
 unfold cmpI
 split
 · omega
 · split <;> omega
theorem refHigh_is {sz : Int} {p q t K : Nat} (hf : Fm sz p q t) (w : World) (hK : K = t + q + 2) : Calls Tryz.prog 118 #[.int .i64 sz] w (RetU3 K w) := by
 rw [hK]
 exact refHigh_any hf w
theorem refPow_is {n H : Nat} (w : World) (hn : n ≤ 63) (h : H = 2 ^ n) : Calls Tryz.prog 141 #[.int .i64 n] w (RetU3 H w) := by
 rw [h]
 exact refPow_any n w hn
theorem refFrac_is {sz : Int} {p q t a c : Nat} (hf : Fm sz p q t) (b : Nat) (w : World) (hb : b ≤ (t + q + 2) * 2 ^ (p - 1)) (ha : FN p q b = a) (hc : FD p q b = c) : Calls Tryz.prog 116 #[.int .u64 (b : Int), .int .i64 sz] w (RetF3 a c w) := by
 rw [← ha, ← hc]
 exact refFrac_any hf b w hb
theorem refCmp3_is {v : Int} (n d n' d' : Nat) (w : World) (h1 : (decL n).length ≤ 1000) (h2 : (decL d).length ≤ 1000) (h3 : (decL n').length ≤ 1000) (h4 : (decL d').length ≤ 1000) (hv : cmpI ((n * d' : Nat) : Int) ((n' * d : Nat) : Int) = v) :
 Calls Tryz.prog 142 #[.agg #[.string (dec n), .string (dec d)], .agg #[.string (dec n'), .string (dec d')]] w (RetIB v w) := by
 rw [← hv]
 exact refCmp3_any n d n' d' w h1 h2 h3 h4
theorem refLess3_is {a c : Nat} (n d n' d' : Nat) (w : World) (h1 : (decL n).length ≤ 1000) (h2 : (decL d).length ≤ 1000) (h3 : (decL n').length ≤ 1000) (h4 : (decL d').length ≤ 1000) (hle : n' * d ≤ n * d') (ha : n * d' - n' * d = a) (hc : d * d' = c) :
 Calls Tryz.prog 143 #[.agg #[.string (dec n), .string (dec d)], .agg #[.string (dec n'), .string (dec d')]] w (RetF3 a c w) := by
 rw [← ha, ← hc]
 exact refLess3_any n d n' d' w h1 h2 h3 h4 hle
theorem pow_len_any {k n j : Nat} (hk : k < 32 * j) (hj : 1 ≤ j) (h : n ≤ 2 ^ k) : (decL n).length ≤ 10 * j := by
 refine decL_limbs (k := j) ?_ hj
 refine Nat.lt_of_le_of_lt h ?_
 rw [B32_eq, show (4294967296 : Nat) = 2 ^ 32 from rfl, ← Nat.pow_mul]
 exact Nat.pow_lt_pow_right (by decide) hk
theorem pow_len {k n : Nat} (hk : k < 1088) (h : n ≤ 2 ^ k) : (decL n).length ≤ 340 := pow_len_any (j := 34) hk (by decide) h
theorem expo_le {p t q b : Nat} (hb : b ≤ (t + q + 2) * 2 ^ (p - 1)) : expo p b ≤ t + q + 1 := by
 have h : b / 2 ^ (p - 1) ≤ t + q + 2 := Nat.div_le_of_le_mul (by rw [Nat.mul_comm]; exact hb)
 unfold expo
 omega
theorem mant_lt {p b : Nat} (hp : 1 < p) : mant p b ≤ 2 ^ p := by
 unfold mant
 have e : 2 ^ p = 2 * 2 ^ (p - 1) := by rw [Nat.mul_comm, ← Nat.pow_succ, show (p - 1).succ = p by omega]
 have h0 : 0 < 2 ^ (p - 1) := Nat.pow_pos (by decide)
 generalize 2 ^ (p - 1) = H at *
 split
 · rename_i h
   have := (Nat.div_eq_zero_iff_lt h0).1 h
   omega
 · have := Nat.mod_lt b h0
   omega
theorem FN_len {sz : Int} {p q t b : Nat} (hf : Fm sz p q t) (hb : b ≤ (t + q + 2) * 2 ^ (p - 1)) : (decL (FN p q b)).length ≤ 340 := by
 obtain ⟨op1, op2, oq0, oq, ot, os1, os2⟩ := hf.ok
 have h1 := expo_le hb
 refine pow_len (k := p + (t + 1)) (by omega) ?_
 unfold FN
 rw [Nat.pow_add]
 exact Nat.mul_le_mul (mant_lt op1) (Nat.pow_le_pow_right (by decide) (by omega))
theorem FD_len {sz : Int} {p q t b : Nat} (hf : Fm sz p q t) : (decL (FD p q b)).length ≤ 340 := by
 obtain ⟨op1, op2, oq0, oq, ot, os1, os2⟩ := hf.ok
 refine pow_len (k := q) (by omega) ?_
 exact Nat.pow_le_pow_right (by decide) (by omega)
def RetNear (hi cc : Nat) (ex : Bool) (w : World) (E : Ending) (w' : World) : Prop := E = .returned (.agg #[.int .u64 ((if hi ≤ cc then hi else cc : Nat) : Int), .bool (if hi ≤ cc then false else ex)]) ∧ Below w.heap.size w w'
theorem RetNear.over {hi cc : Nat} {ex : Bool} {w w' : World} (h : hi ≤ cc) (hb : Below w.heap.size w w') : RetNear hi cc ex w (.returned (.agg #[.int .u64 (hi : Int), .bool false])) w' := by
 unfold RetNear
 rw [if_pos h, if_pos h]
 exact ⟨rfl, hb⟩
theorem RetNear.fit {hi cc c : Nat} {ex x : Bool} {w w' : World} (h : cc ≤ hi) (hc : cc = c) (hx : ex = x) (hx2 : hi ≤ cc → x = false) (hb : Below w.heap.size w w') : RetNear hi cc ex w (.returned (.agg #[.int .u64 (c : Int), .bool x])) w' := by
 unfold RetNear
 subst hc hx
 by_cases h' : hi ≤ cc
 · rw [if_pos h', if_pos h', hx2 h', show hi = cc by omega]
   exact ⟨rfl, hb⟩
 · rw [if_neg h', if_neg h']
   exact ⟨rfl, hb⟩
structure NrRel (w wr : World) (p q n d HI lo hi : Nat) : Prop where
 old : Below w.heap.size w wr
 cx : Blk wr (w.heap.size) 132 #[.string (dec n), .string (dec d)]
 res : Blk wr (w.heap.size + 1) 129 #[.int .u64 0, .bool false]
 lt : lo < hi
 top : hi ≤ HI
 low : V p lo * d ≤ n * 2 ^ q
 high : n * 2 ^ q < V p hi * d
theorem cmpI_nonneg {a b : Nat} : 0 ≤ cmpI (a : Int) (b : Int) ↔ b ≤ a := by
 unfold cmpI
 split
 · omega
 · split <;> omega
theorem cmpI_nonpos {a b : Nat} : cmpI (a : Int) (b : Int) ≤ 0 ↔ a ≤ b := by
 unfold cmpI
 split
 · omega
 · split <;> omega
theorem near_pos {p q n d HI : Nat} (h : n * 2 ^ q < V p HI * d) : 0 < HI := by
 rcases Nat.eq_zero_or_pos HI with h0 | h0
 · rw [h0, V_zero, Nat.zero_mul] at h
   omega
 · exact h0
theorem refNear_any {sz : Int} {p q t : Nat} (hf : Fm sz p q t) (n d : Nat) (w : World) (hn : n < Top) (hd : d < Top) (hd0 : d ≠ 0) {cc : Nat} {ex : Bool} (hC : Code p q n d cc ex) :
 Calls Tryz.prog 115 #[.agg #[.string (dec n), .string (dec d)], .int .i64 sz] w (RetNear ((t + q + 2) * 2 ^ (p - 1)) cc ex w) := by
 obtain ⟨op1, op2, oq0, oq, ot, os1, os2⟩ := hf.ok
 have HF := Lib.hid hf; clear hf
 obtain ⟨H, hH⟩ : ∃ H, H = 2 ^ (p - 1) := ⟨_, rfl⟩
 have hH1 : H ≤ 4503599627370496 := by rw [hH]; exact Nat.pow_le_pow_right (n := 2) (j := 52) (by decide) (by omega)
 obtain ⟨K, hK⟩ : ∃ K, K = t + q + 2 := ⟨_, rfl⟩
 obtain ⟨HI, hHI⟩ : ∃ HI, HI = (t + q + 2) * 2 ^ (p - 1) := ⟨_, rfl⟩
 have hHI2 : HI ≤ 2047 * 4503599627370496 := by rw [hHI, ← hH]; exact Nat.mul_le_mul (by omega) hH1
 have s0 : IntKind.i64.wrap ((p : Int) - 1) = ((p - 1 : Nat) : Int) := by rw [IntKind.wrap_i64]; omega
 have s1 : (K : Int) * (H : Int) = (HI : Int) := by rw [hHI, ← hH, ← hK, Int.natCast_mul]
 have s2 : IntKind.u64.wrap (HI : Int) = (HI : Int) := by rw [IntKind.wrap_u64]; omega
 have hle : HI ≤ (t + q + 2) * 2 ^ (p - 1) := Nat.le_of_eq hHI
 have l1 := decL_top hn
 have l2 := decL_top hd
 obtain ⟨a9, ha9⟩ : ∃ a, FN p q HI = a := ⟨_, rfl⟩
 obtain ⟨c9, hc9⟩ : ∃ a, FD p q HI = a := ⟨_, rfl⟩
 obtain ⟨v, hv⟩ : ∃ v, cmpI ((n * c9 : Nat) : Int) ((a9 * d : Nat) : Int) = v := ⟨_, rfl⟩
 have l3 := FN_len HF.out hle
 have l4 := FD_len (b := HI) HF.out
 rw [ha9] at l3
 rw [hc9] at l4
 have hge : 0 ≤ v ↔ V p HI * d ≤ n * 2 ^ q := by rw [← hv, cmpI_nonneg, ← ha9, ← hc9]; exact F_le
 have HG := Lib.hid hge; clear hge
 have HV := Lib.hid (And.intro ha9 (And.intro hc9 hv)); clear ha9 hc9 hv
 have HLN := Lib.hid (And.intro l1 (And.intro l2 (And.intro l3 l4))); clear l1 l2 l3 l4
 have HHI := Lib.hid (And.intro hHI (And.intro hle (And.intro hHI2 (And.intro hH hK)))); clear hHI hle hHI2 hH hK
 have HN := Lib.hid (And.intro hn (And.intro hd hd0)); clear hn hd hd0
 have HC := Lib.hid hC; clear hC
 obtain ⟨wa, hwa⟩ : ∃ wa, wa = (w.alloc (.cells #[.string (dec n), .string (dec d)] 132)).alloc (.cells #[.int .u64 0, .bool false] 129) := ⟨_, rfl⟩
 obtain ⟨hbl, CX, RES⟩ := sal2 hwa
 have HW := Lib.hid hbl; clear hbl
 go_enter Tryz.func115, Tryz.ntmps115
 go_wp2_with fail
 rw [← hwa]
 clear hwa
 have CX0 := CX.out.c0
 have CX1 := CX.out.c1
 refine (refHigh_is HF.out _ HHI.out.2.2.2.2).mono ?_
 rintro e w1 ⟨rfl, hbl⟩
 replace CX := hmB CX hbl
 replace RES := hmB RES hbl
 replace HW := hmW HW hbl; clear hbl
 clear CX0 CX1
 have CX0 := CX.out.c0
 have CX1 := CX.out.c1
 go_wp2_with fail
 refine (refMant_any HF.out _).mono ?_
 rintro e w2 ⟨rfl, hbl⟩
 replace CX := hmB CX hbl
 replace RES := hmB RES hbl
 replace HW := hmW HW hbl; clear hbl
 clear CX0 CX1
 have CX0 := CX.out.c0
 have CX1 := CX.out.c1
 go_wp2_with fail
 refine (refPow_is _ (by omega) HHI.out.2.2.2.1).mono ?_
 rintro e w3 ⟨rfl, hbl⟩
 replace CX := hmB CX hbl
 replace RES := hmB RES hbl
 replace HW := hmW HW hbl; clear hbl
 clear CX0 CX1
 have CX0 := CX.out.c0
 have CX1 := CX.out.c1
 go_upto_region 3 with fail
 clear s0 s1 s2
 by_cases hv0 : 0 ≤ v
 · refine wp_region_typed 6 (TOf [VIs (.agg #[.string (dec n), .string (dec d)]),
    VIs (.int .u64 (HI : Int)),
    VIs (.int .i64 sz),
    VIs (.agg #[.string (dec a9), .string (dec c9)]),
    VIs (.int .i64 v),
    VIs (.bool true)]) (by kernel_rfl) (by kernel_rfl) (by kernel_rfl) (LiftAll.at_ (.cons (VIs.lift _) (.cons (VIs.lift _) (.cons (VIs.lift _) (.cons (VIs.lift _) (.cons (VIs.lift _) (.cons (VIs.lift _) .nil))))))) (steps_all (steps_cons ?_ (steps_cons ?_ (steps_cons ?_ (steps_cons ?_ (steps_cons ?_ (steps_cons ?_ steps_zero))))))) ?fin
   · intro a0 w9 K9 hF hB hK hC
     have b2 := hF.base (k := 2) (v := .pointer (some ⟨w.heap.size, 0, none⟩)) (by kernel_rfl) rfl
     have x90 := (CX.out.below hB CX.out.lt).c0
     have x91 := (CX.out.below hB CX.out.lt).c1
     clear hF hB hK
     go_simp
     exact hC _ _ (bR _) fun _ _ => rfl
   · intro a0 w9 K9 hF hB hK hC
     have b6 := hF.base (k := 6) (v := .int .u64 (HI : Int)) (by kernel_rfl) rfl
     clear hF hB hK
     go_simp
     exact hC _ _ (bR _) fun _ _ => rfl
   · intro a0 w9 K9 hF hB hK hC
     have b1 := hF.base (k := 1) (v := .int .i64 sz) (by kernel_rfl) rfl
     clear hF hB hK
     go_simp
     exact hC _ _ (bR _) fun _ _ => rfl
   · intro a0 w9 K9 hF hB hK hC
     have e19 := depV hK 0 rfl rfl rfl rfl
     have e20 := depV hK 1 rfl rfl rfl rfl
     have HB9 := Lib.hid hB
     clear hF hB hK
     go_simp
     refine (refFrac_is HF.out HI _ HHI.out.2.1 HV.out.1 HV.out.2.1).mono ?_
     rintro e w7 ⟨rfl, hbl⟩
     exact hC _ _ hbl fun _ _ => rfl
   · intro a0 w9 K9 hF hB hK hC
     have e18 := depV hK 0 rfl rfl rfl rfl
     have e21 := depV hK 1 rfl rfl rfl rfl
     have HB9 := Lib.hid hB
     clear hF hB hK
     go_simp
     refine (refCmp3_is n d a9 c9 _ (by have := HLN.out.1; omega) (by have := HLN.out.2.1; omega) (by have := HLN.out.2.2.1; omega) (by have := HLN.out.2.2.2; omega) HV.out.2.2).mono ?_
     rintro e w7 ⟨rfl, hbl⟩
     exact hC _ _ hbl fun _ _ => rfl
   · intro a0 w9 K9 hF hB hK hC
     have e22 := depV hK 0 rfl rfl rfl rfl
     have HB9 := Lib.hid hB
     clear hF hB hK
     go_simp
     exact hC _ _ (bR _) fun _ _ => rfl
   case fin =>
    intro a0 w9 hF hB hK
    have b0 := hF.base (k := 0) (v := .agg #[.string (dec n), .string (dec d)]) (by kernel_rfl) rfl
    have b1 := hF.base (k := 1) (v := .int .i64 sz) (by kernel_rfl) rfl
    have b2 := hF.base (k := 2) (v := .pointer (some ⟨w.heap.size, 0, none⟩)) (by kernel_rfl) rfl
    have b4 := hF.base (k := 4) (v := .pointer (some ⟨w.heap.size + 1, 0, none⟩)) (by kernel_rfl) rfl
    have b5 := hF.base (k := 5) (v := .int .u64 0) (by kernel_rfl) rfl
    have b6 := hF.base (k := 6) (v := .int .u64 (HI : Int)) (by kernel_rfl) rfl
    have hsz := hF.size
    have hdf := hF.defers
    clear hF
    obtain ⟨v23, e23, z23⟩ := known hK 5 (k := 23) (by decide) rfl
    have z23 : v23 = .bool true := z23
    subst z23
    clear hK
    obtain ⟨⟨l0⟩, df⟩ := a0
    have hs0 : l0.length = 75 := hsz
    clear hsz
    replace hdf : df = _ := hdf
    subst hdf
    obtain ⟨u, rfl⟩ := lits_75 hs0
    clear hs0
    generalize hAr : (Array.mk [u 0, u 1, u 2, u 3, u 4, u 5, u 6, u 7, u 8, u 9, u 10, u 11, u 12, u 13, u 14, u 15, u 16, u 17, u 18, u 19, u 20, u 21, u 22, u 23, u 24, u 25, u 26, u 27, u 28, u 29, u 30, u 31, u 32, u 33, u 34, u 35, u 36, u 37, u 38, u 39, u 40, u 41, u 42, u 43, u 44, u 45, u 46, u 47, u 48, u 49, u 50, u 51, u 52, u 53, u 54, u 55, u 56, u 57, u 58, u 59, u 60, u 61, u 62, u 63, u 64, u 65, u 66, u 67, u 68, u 69, u 70, u 71, u 72, u 73, u 74] : Array Value) = ar
    obtain rfl : ar = #[u 0, u 1, u 2, u 3, u 4, u 5, u 6, u 7, u 8, u 9, u 10, u 11, u 12, u 13, u 14, u 15, u 16, u 17, u 18, u 19, u 20, u 21, u 22, u 23, u 24, u 25, u 26, u 27, u 28, u 29, u 30, u 31, u 32, u 33, u 34, u 35, u 36, u 37, u 38, u 39, u 40, u 41, u 42, u 43, u 44, u 45, u 46, u 47, u 48, u 49, u 50, u 51, u 52, u 53, u 54, u 55, u 56, u 57, u 58, u 59, u 60, u 61, u 62, u 63, u 64, u 65, u 66, u 67, u 68, u 69, u 70, u 71, u 72, u 73, u 74] := hAr.symm
    have q0 : u 0 = _ := Option.some.inj b0
    clear b0
    have q1 : u 1 = _ := Option.some.inj b1
    clear b1
    have q2 : u 2 = _ := Option.some.inj b2
    clear b2
    have q4 : u 4 = _ := Option.some.inj b4
    clear b4
    have q5 : u 5 = _ := Option.some.inj b5
    clear b5
    have q6 : u 6 = _ := Option.some.inj b6
    clear b6
    have q23 : u 23 = _ := Option.some.inj e23
    clear e23
    rw [q0, q1, q2, q4, q5, q6, q23]
    clear q0 q1 q2 q4 q5 q6 q23
    have hbl := hB; clear hB
    replace CX := hmB CX hbl
    replace RES := hmB RES hbl
    replace HW := hmW HW hbl; clear hbl
    clear CX0 CX1
    have CX0 := CX.out.c0
    have CX1 := CX.out.c1
    refine wpList_nil ?_
    have hov := HG.out.1 hv0
    have d0 := RES.out.c0
    have f0 := RES.out.frozen 0
    have d1 := RES.out.c1
    have f1 := RES.out.frozen 1
    go_wp2
    exact bodyPost_ret (results_cell_row rfl _ _ (w.heap.size + 1) 129 _ (0, 0) _ rfl (RES.out.put2 _ _) Tryz.underlying129 rfl (by kernel_rfl)) rfl ((by rw [← HHI.out.1]; exact RetNear.over (HC.out.over_iff hov) (bel_set2 (g := w.heap.size + 1) HW.out (by omega) _ _)))
 · have hv1 : v < 0 := by omega
   refine wp_region_typed 6 (TOf [VIs (.agg #[.string (dec n), .string (dec d)]),
    VIs (.int .u64 (HI : Int)),
    VIs (.int .i64 sz),
    VIs (.agg #[.string (dec a9), .string (dec c9)]),
    VIs (.int .i64 v),
    VIs (.bool false)]) (by kernel_rfl) (by kernel_rfl) (by kernel_rfl) (LiftAll.at_ (.cons (VIs.lift _) (.cons (VIs.lift _) (.cons (VIs.lift _) (.cons (VIs.lift _) (.cons (VIs.lift _) (.cons (VIs.lift _) .nil))))))) (steps_all (steps_cons ?_ (steps_cons ?_ (steps_cons ?_ (steps_cons ?_ (steps_cons ?_ (steps_cons ?_ steps_zero))))))) ?fin
   · intro a0 w9 K9 hF hB hK hC
     have b2 := hF.base (k := 2) (v := .pointer (some ⟨w.heap.size, 0, none⟩)) (by kernel_rfl) rfl
     have x90 := (CX.out.below hB CX.out.lt).c0
     have x91 := (CX.out.below hB CX.out.lt).c1
     clear hF hB hK
     go_simp
     exact hC _ _ (bR _) fun _ _ => rfl
   · intro a0 w9 K9 hF hB hK hC
     have b6 := hF.base (k := 6) (v := .int .u64 (HI : Int)) (by kernel_rfl) rfl
     clear hF hB hK
     go_simp
     exact hC _ _ (bR _) fun _ _ => rfl
   · intro a0 w9 K9 hF hB hK hC
     have b1 := hF.base (k := 1) (v := .int .i64 sz) (by kernel_rfl) rfl
     clear hF hB hK
     go_simp
     exact hC _ _ (bR _) fun _ _ => rfl
   · intro a0 w9 K9 hF hB hK hC
     have e19 := depV hK 0 rfl rfl rfl rfl
     have e20 := depV hK 1 rfl rfl rfl rfl
     have HB9 := Lib.hid hB
     clear hF hB hK
     go_simp
     refine (refFrac_is HF.out HI _ HHI.out.2.1 HV.out.1 HV.out.2.1).mono ?_
     rintro e w7 ⟨rfl, hbl⟩
     exact hC _ _ hbl fun _ _ => rfl
   · intro a0 w9 K9 hF hB hK hC
     have e18 := depV hK 0 rfl rfl rfl rfl
     have e21 := depV hK 1 rfl rfl rfl rfl
     have HB9 := Lib.hid hB
     clear hF hB hK
     go_simp
     refine (refCmp3_is n d a9 c9 _ (by have := HLN.out.1; omega) (by have := HLN.out.2.1; omega) (by have := HLN.out.2.2.1; omega) (by have := HLN.out.2.2.2; omega) HV.out.2.2).mono ?_
     rintro e w7 ⟨rfl, hbl⟩
     exact hC _ _ hbl fun _ _ => rfl
   · intro a0 w9 K9 hF hB hK hC
     have e22 := depV hK 0 rfl rfl rfl rfl
     have HB9 := Lib.hid hB
     clear hF hB hK
     go_simp
     exact hC _ _ (bR _) fun _ _ => rfl
   case fin =>
    intro a0 w9 hF hB hK
    have b0 := hF.base (k := 0) (v := .agg #[.string (dec n), .string (dec d)]) (by kernel_rfl) rfl
    have b1 := hF.base (k := 1) (v := .int .i64 sz) (by kernel_rfl) rfl
    have b2 := hF.base (k := 2) (v := .pointer (some ⟨w.heap.size, 0, none⟩)) (by kernel_rfl) rfl
    have b4 := hF.base (k := 4) (v := .pointer (some ⟨w.heap.size + 1, 0, none⟩)) (by kernel_rfl) rfl
    have b5 := hF.base (k := 5) (v := .int .u64 0) (by kernel_rfl) rfl
    have b6 := hF.base (k := 6) (v := .int .u64 (HI : Int)) (by kernel_rfl) rfl
    have hsz := hF.size
    have hdf := hF.defers
    clear hF
    obtain ⟨v23, e23, z23⟩ := known hK 5 (k := 23) (by decide) rfl
    have z23 : v23 = .bool false := z23
    subst z23
    clear hK
    obtain ⟨⟨l0⟩, df⟩ := a0
    have hs0 : l0.length = 75 := hsz
    clear hsz
    replace hdf : df = _ := hdf
    subst hdf
    obtain ⟨u, rfl⟩ := lits_75 hs0
    clear hs0
    generalize hAr : (Array.mk [u 0, u 1, u 2, u 3, u 4, u 5, u 6, u 7, u 8, u 9, u 10, u 11, u 12, u 13, u 14, u 15, u 16, u 17, u 18, u 19, u 20, u 21, u 22, u 23, u 24, u 25, u 26, u 27, u 28, u 29, u 30, u 31, u 32, u 33, u 34, u 35, u 36, u 37, u 38, u 39, u 40, u 41, u 42, u 43, u 44, u 45, u 46, u 47, u 48, u 49, u 50, u 51, u 52, u 53, u 54, u 55, u 56, u 57, u 58, u 59, u 60, u 61, u 62, u 63, u 64, u 65, u 66, u 67, u 68, u 69, u 70, u 71, u 72, u 73, u 74] : Array Value) = ar
    obtain rfl : ar = #[u 0, u 1, u 2, u 3, u 4, u 5, u 6, u 7, u 8, u 9, u 10, u 11, u 12, u 13, u 14, u 15, u 16, u 17, u 18, u 19, u 20, u 21, u 22, u 23, u 24, u 25, u 26, u 27, u 28, u 29, u 30, u 31, u 32, u 33, u 34, u 35, u 36, u 37, u 38, u 39, u 40, u 41, u 42, u 43, u 44, u 45, u 46, u 47, u 48, u 49, u 50, u 51, u 52, u 53, u 54, u 55, u 56, u 57, u 58, u 59, u 60, u 61, u 62, u 63, u 64, u 65, u 66, u 67, u 68, u 69, u 70, u 71, u 72, u 73, u 74] := hAr.symm
    have q0 : u 0 = _ := Option.some.inj b0
    clear b0
    have q1 : u 1 = _ := Option.some.inj b1
    clear b1
    have q2 : u 2 = _ := Option.some.inj b2
    clear b2
    have q4 : u 4 = _ := Option.some.inj b4
    clear b4
    have q5 : u 5 = _ := Option.some.inj b5
    clear b5
    have q6 : u 6 = _ := Option.some.inj b6
    clear b6
    have q23 : u 23 = _ := Option.some.inj e23
    clear e23
    rw [q0, q1, q2, q4, q5, q6, q23]
    clear q0 q1 q2 q4 q5 q6 q23
    have hbl := hB; clear hB
    replace CX := hmB CX hbl
    replace RES := hmB RES hbl
    replace HW := hmW HW hbl; clear hbl
    clear CX0 CX1
    have CX0 := CX.out.c0
    have CX1 := CX.out.c1
    refine wpList_nil ?_
    have hno : n * 2 ^ q < V p HI * d := by rcases Nat.lt_or_ge (n * 2 ^ q) (V p HI * d) with h | h; exact h; exact absurd (HG.out.2 h) hv0
    have HNO := Lib.hid hno; clear hno hv0 hv1
    go_wp2_with fail
    go_loopw [5, 6] (fun lov hiv wr => ∃ lo hi : Nat, lov = .int .u64 (lo : Int) ∧ hiv = .int .u64 (hi : Int) ∧ NrRel w wr p q n d HI lo hi) (fun lov hiv _ => (intOf hiv - intOf lov).toNat)
    case atStart => exact ⟨0, HI, rfl, rfl, HW.out, CX.out, RES.out, near_pos HNO.out, Nat.le_refl _, by rw [V_zero, Nat.zero_mul]; exact Nat.zero_le _, HNO.out⟩
    case round =>
     obtain ⟨lo, hi, rfl, rfl, hrel⟩ := hrel
     clear CX0 CX1
     replace HW := Lib.hid hrel.old
     replace CX := Lib.hid hrel.cx
     replace RES := Lib.hid hrel.res
     have CX0 := CX.out.c0
     have CX1 := CX.out.c1
     obtain ⟨hlt, htop, hlow, hhigh⟩ : lo < hi ∧ hi ≤ HI ∧ V p lo * d ≤ n * 2 ^ q ∧ n * 2 ^ q < V p hi * d := ⟨hrel.lt, hrel.top, hrel.low, hrel.high⟩
     clear hrel
     have htop2 : HI ≤ 2047 * 4503599627370496 := HHI.out.2.2.1
     obtain ⟨G, hG⟩ : ∃ G, G = hi - lo := ⟨_, rfl⟩
     have s1 : IntKind.u64.wrap ((hi : Int) - (lo : Int)) = (G : Int) := by rw [IntKind.wrap_u64]; omega
     by_cases hg : 1 < G
     · have c1 : (1 : Int) < (G : Int) := by omega
       obtain ⟨G2, hG2⟩ : ∃ x, x = G / 2 := ⟨_, rfl⟩
       have s2 : (G : Int) / 2 = (G2 : Int) := by omega
       have s3 : IntKind.u64.wrap (G2 : Int) = (G2 : Int) := by rw [IntKind.wrap_u64]; omega
       obtain ⟨mid, hmid⟩ : ∃ x, x = lo + G2 := ⟨_, rfl⟩
       have s4 : IntKind.u64.wrap ((lo : Int) + (G2 : Int)) = (mid : Int) := by rw [IntKind.wrap_u64]; omega
       have hm2 : lo < mid ∧ mid < hi := by omega
       have hle : mid ≤ (t + q + 2) * 2 ^ (p - 1) := by rw [← HHI.out.1]; omega
       obtain ⟨a8, ha8⟩ : ∃ a, FN p q mid = a := ⟨_, rfl⟩
       obtain ⟨c8, hc8⟩ : ∃ a, FD p q mid = a := ⟨_, rfl⟩
       obtain ⟨v8, hv8⟩ : ∃ v, cmpI ((a8 * d : Nat) : Int) ((n * c8 : Nat) : Int) = v := ⟨_, rfl⟩
       have l3 := FN_len HF.out hle
       have l4 := FD_len (b := mid) HF.out
       rw [ha8] at l3
       rw [hc8] at l4
       have hge : v8 ≤ 0 ↔ V p mid * d ≤ n * 2 ^ q := by rw [← hv8, cmpI_nonpos, ← ha8, ← hc8]; exact F_le
       have HG8 := Lib.hid hge; clear hge
       have HV8 := Lib.hid (And.intro ha8 (And.intro hc8 (And.intro hv8 (And.intro hle (And.intro l3 l4))))); clear ha8 hc8 hv8 hle l3 l4
       have HLH := Lib.hid (And.intro hlt (And.intro htop (And.intro hlow (And.intro hhigh hm2)))); clear hlt htop htop2 hlow hhigh hm2 hG hG2 hmid hg
       go_upto_region 7 with fail
       clear s1 s2 s3 s4
       by_cases hv0 : v8 ≤ 0
       · refine wp_region_typed 6 (TOf [VIs (.int .u64 (mid : Int)),
          VIs (.int .i64 sz),
          VIs (.agg #[.string (dec a8), .string (dec c8)]),
          VIs (.agg #[.string (dec n), .string (dec d)]),
          VIs (.int .i64 v8),
          VIs (.bool true)]) (by kernel_rfl) (by kernel_rfl) (by kernel_rfl) (LiftAll.at_ (.cons (VIs.lift _) (.cons (VIs.lift _) (.cons (VIs.lift _) (.cons (VIs.lift _) (.cons (VIs.lift _) (.cons (VIs.lift _) .nil))))))) (steps_all (steps_cons ?_ (steps_cons ?_ (steps_cons ?_ (steps_cons ?_ (steps_cons ?_ (steps_cons ?_ steps_zero))))))) ?fin
         · intro a0 w9 K9 hF hB hK hC
           have b7 := hF.base (k := 7) (v := .int .u64 (mid : Int)) (by kernel_rfl) rfl
           clear hF hB hK
           go_simp
           exact hC _ _ (bR _) fun _ _ => rfl
         · intro a0 w9 K9 hF hB hK hC
           have b1 := hF.base (k := 1) (v := .int .i64 sz) (by kernel_rfl) rfl
           clear hF hB hK
           go_simp
           exact hC _ _ (bR _) fun _ _ => rfl
         · intro a0 w9 K9 hF hB hK hC
           have e36 := depV hK 0 rfl rfl rfl rfl
           have e37 := depV hK 1 rfl rfl rfl rfl
           have HB9 := Lib.hid hB
           clear hF hB hK
           go_simp
           refine (refFrac_is HF.out mid _ HV8.out.2.2.2.1 HV8.out.1 HV8.out.2.1).mono ?_
           rintro e w7 ⟨rfl, hbl⟩
           exact hC _ _ hbl fun _ _ => rfl
         · intro a0 w9 K9 hF hB hK hC
           have b2 := hF.base (k := 2) (v := .pointer (some ⟨w.heap.size, 0, none⟩)) (by kernel_rfl) rfl
           have x90 := (CX.out.below hB CX.out.lt).c0
           have x91 := (CX.out.below hB CX.out.lt).c1
           clear hF hB hK
           go_simp
           exact hC _ _ (bR _) fun _ _ => rfl
         · intro a0 w9 K9 hF hB hK hC
           have e38 := depV hK 0 rfl rfl rfl rfl
           have e39 := depV hK 1 rfl rfl rfl rfl
           have HB9 := Lib.hid hB
           clear hF hB hK
           go_simp
           refine (refCmp3_is a8 c8 n d _ (by have := HV8.out.2.2.2.2.1; omega) (by have := HV8.out.2.2.2.2.2; omega) (by have := HLN.out.1; omega) (by have := HLN.out.2.1; omega) HV8.out.2.2.1).mono ?_
           rintro e w7 ⟨rfl, hbl⟩
           exact hC _ _ hbl fun _ _ => rfl
         · intro a0 w9 K9 hF hB hK hC
           have e40 := depV hK 0 rfl rfl rfl rfl
           have HB9 := Lib.hid hB
           clear hF hB hK
           go_simp
           exact hC _ _ (bR _) fun _ _ => rfl
         case fin =>
          intro a0 w9 hF hB hK
          have b7 := hF.base (k := 7) (v := .int .u64 (mid : Int)) (by kernel_rfl) rfl
          have b8 := hF.base (k := 8) (v := u 8) (by kernel_rfl) rfl
          have b9 := hF.base (k := 9) (v := u 9) (by kernel_rfl) rfl
          have b10 := hF.base (k := 10) (v := u 10) (by kernel_rfl) rfl
          have b11 := hF.base (k := 11) (v := u 11) (by kernel_rfl) rfl
          have b12 := hF.base (k := 12) (v := u 12) (by kernel_rfl) rfl
          have b13 := hF.base (k := 13) (v := u 13) (by kernel_rfl) rfl
          have b14 := hF.base (k := 14) (v := u 14) (by kernel_rfl) rfl
          have b15 := hF.base (k := 15) (v := u 15) (by kernel_rfl) rfl
          have b16 := hF.base (k := 16) (v := u 16) (by kernel_rfl) rfl
          have b17 := hF.base (k := 17) (v := u 17) (by kernel_rfl) rfl
          have b18 := hF.base (k := 18) (v := u 18) (by kernel_rfl) rfl
          have b19 := hF.base (k := 19) (v := u 19) (by kernel_rfl) rfl
          have b20 := hF.base (k := 20) (v := u 20) (by kernel_rfl) rfl
          have b21 := hF.base (k := 21) (v := u 21) (by kernel_rfl) rfl
          have b22 := hF.base (k := 22) (v := u 22) (by kernel_rfl) rfl
          have b23 := hF.base (k := 23) (v := .bool false) (by kernel_rfl) rfl
          have b24 := hF.base (k := 24) (v := u 24) (by kernel_rfl) rfl
          have b25 := hF.base (k := 25) (v := u 25) (by kernel_rfl) rfl
          have b44 := hF.base (k := 44) (v := u 44) (by kernel_rfl) rfl
          have b45 := hF.base (k := 45) (v := u 45) (by kernel_rfl) rfl
          have b46 := hF.base (k := 46) (v := u 46) (by kernel_rfl) rfl
          have b47 := hF.base (k := 47) (v := u 47) (by kernel_rfl) rfl
          have b48 := hF.base (k := 48) (v := u 48) (by kernel_rfl) rfl
          have b49 := hF.base (k := 49) (v := u 49) (by kernel_rfl) rfl
          have b50 := hF.base (k := 50) (v := u 50) (by kernel_rfl) rfl
          have b51 := hF.base (k := 51) (v := u 51) (by kernel_rfl) rfl
          have b52 := hF.base (k := 52) (v := u 52) (by kernel_rfl) rfl
          have b53 := hF.base (k := 53) (v := u 53) (by kernel_rfl) rfl
          have b54 := hF.base (k := 54) (v := u 54) (by kernel_rfl) rfl
          have b55 := hF.base (k := 55) (v := u 55) (by kernel_rfl) rfl
          have b56 := hF.base (k := 56) (v := u 56) (by kernel_rfl) rfl
          have b57 := hF.base (k := 57) (v := u 57) (by kernel_rfl) rfl
          have b58 := hF.base (k := 58) (v := u 58) (by kernel_rfl) rfl
          have b59 := hF.base (k := 59) (v := u 59) (by kernel_rfl) rfl
          have b60 := hF.base (k := 60) (v := u 60) (by kernel_rfl) rfl
          have b61 := hF.base (k := 61) (v := u 61) (by kernel_rfl) rfl
          have b62 := hF.base (k := 62) (v := u 62) (by kernel_rfl) rfl
          have b63 := hF.base (k := 63) (v := u 63) (by kernel_rfl) rfl
          have b64 := hF.base (k := 64) (v := u 64) (by kernel_rfl) rfl
          have b65 := hF.base (k := 65) (v := u 65) (by kernel_rfl) rfl
          have b66 := hF.base (k := 66) (v := u 66) (by kernel_rfl) rfl
          have b67 := hF.base (k := 67) (v := u 67) (by kernel_rfl) rfl
          have b68 := hF.base (k := 68) (v := u 68) (by kernel_rfl) rfl
          have b69 := hF.base (k := 69) (v := u 69) (by kernel_rfl) rfl
          have b70 := hF.base (k := 70) (v := u 70) (by kernel_rfl) rfl
          have b71 := hF.base (k := 71) (v := u 71) (by kernel_rfl) rfl
          have b72 := hF.base (k := 72) (v := u 72) (by kernel_rfl) rfl
          have b73 := hF.base (k := 73) (v := u 73) (by kernel_rfl) rfl
          have b74 := hF.base (k := 74) (v := u 74) (by kernel_rfl) rfl
          have b0 := hF.base (k := 0) (v := .agg #[.string (dec n), .string (dec d)]) (by kernel_rfl) rfl
          have b1 := hF.base (k := 1) (v := .int .i64 sz) (by kernel_rfl) rfl
          have b2 := hF.base (k := 2) (v := .pointer (some ⟨w.heap.size, 0, none⟩)) (by kernel_rfl) rfl
          have b3 := hF.base (k := 3) (v := u 3) (by kernel_rfl) rfl
          have b4 := hF.base (k := 4) (v := .pointer (some ⟨w.heap.size + 1, 0, none⟩)) (by kernel_rfl) rfl
          have b5 := hF.base (k := 5) (v := .int .u64 (lo : Int)) (by kernel_rfl) rfl
          have b6 := hF.base (k := 6) (v := .int .u64 (hi : Int)) (by kernel_rfl) rfl
          have hsz := hF.size
          have hdf := hF.defers
          clear hF
          obtain ⟨v41, e41, z41⟩ := known hK 5 (k := 41) (by decide) rfl
          have z41 : v41 = .bool true := z41
          subst z41
          clear hK
          obtain ⟨⟨l0⟩, df⟩ := a0
          have hs0 : l0.length = 75 := hsz
          clear hsz
          replace hdf : df = _ := hdf
          subst hdf
          obtain ⟨u, rfl⟩ := lits_75 hs0
          clear hs0
          generalize hAr : (Array.mk [u 0, u 1, u 2, u 3, u 4, u 5, u 6, u 7, u 8, u 9, u 10, u 11, u 12, u 13, u 14, u 15, u 16, u 17, u 18, u 19, u 20, u 21, u 22, u 23, u 24, u 25, u 26, u 27, u 28, u 29, u 30, u 31, u 32, u 33, u 34, u 35, u 36, u 37, u 38, u 39, u 40, u 41, u 42, u 43, u 44, u 45, u 46, u 47, u 48, u 49, u 50, u 51, u 52, u 53, u 54, u 55, u 56, u 57, u 58, u 59, u 60, u 61, u 62, u 63, u 64, u 65, u 66, u 67, u 68, u 69, u 70, u 71, u 72, u 73, u 74] : Array Value) = ar
          obtain rfl : ar = #[u 0, u 1, u 2, u 3, u 4, u 5, u 6, u 7, u 8, u 9, u 10, u 11, u 12, u 13, u 14, u 15, u 16, u 17, u 18, u 19, u 20, u 21, u 22, u 23, u 24, u 25, u 26, u 27, u 28, u 29, u 30, u 31, u 32, u 33, u 34, u 35, u 36, u 37, u 38, u 39, u 40, u 41, u 42, u 43, u 44, u 45, u 46, u 47, u 48, u 49, u 50, u 51, u 52, u 53, u 54, u 55, u 56, u 57, u 58, u 59, u 60, u 61, u 62, u 63, u 64, u 65, u 66, u 67, u 68, u 69, u 70, u 71, u 72, u 73, u 74] := hAr.symm
          have q7 : u 7 = _ := Option.some.inj b7
          clear b7
          have q8 : u 8 = _ := Option.some.inj b8
          clear b8
          have q9 : u 9 = _ := Option.some.inj b9
          clear b9
          have q10 : u 10 = _ := Option.some.inj b10
          clear b10
          have q11 : u 11 = _ := Option.some.inj b11
          clear b11
          have q12 : u 12 = _ := Option.some.inj b12
          clear b12
          have q13 : u 13 = _ := Option.some.inj b13
          clear b13
          have q14 : u 14 = _ := Option.some.inj b14
          clear b14
          have q15 : u 15 = _ := Option.some.inj b15
          clear b15
          have q16 : u 16 = _ := Option.some.inj b16
          clear b16
          have q17 : u 17 = _ := Option.some.inj b17
          clear b17
          have q18 : u 18 = _ := Option.some.inj b18
          clear b18
          have q19 : u 19 = _ := Option.some.inj b19
          clear b19
          have q20 : u 20 = _ := Option.some.inj b20
          clear b20
          have q21 : u 21 = _ := Option.some.inj b21
          clear b21
          have q22 : u 22 = _ := Option.some.inj b22
          clear b22
          have q23 : u 23 = _ := Option.some.inj b23
          clear b23
          have q24 : u 24 = _ := Option.some.inj b24
          clear b24
          have q25 : u 25 = _ := Option.some.inj b25
          clear b25
          have q44 : u 44 = _ := Option.some.inj b44
          clear b44
          have q45 : u 45 = _ := Option.some.inj b45
          clear b45
          have q46 : u 46 = _ := Option.some.inj b46
          clear b46
          have q47 : u 47 = _ := Option.some.inj b47
          clear b47
          have q48 : u 48 = _ := Option.some.inj b48
          clear b48
          have q49 : u 49 = _ := Option.some.inj b49
          clear b49
          have q50 : u 50 = _ := Option.some.inj b50
          clear b50
          have q51 : u 51 = _ := Option.some.inj b51
          clear b51
          have q52 : u 52 = _ := Option.some.inj b52
          clear b52
          have q53 : u 53 = _ := Option.some.inj b53
          clear b53
          have q54 : u 54 = _ := Option.some.inj b54
          clear b54
          have q55 : u 55 = _ := Option.some.inj b55
          clear b55
          have q56 : u 56 = _ := Option.some.inj b56
          clear b56
          have q57 : u 57 = _ := Option.some.inj b57
          clear b57
          have q58 : u 58 = _ := Option.some.inj b58
          clear b58
          have q59 : u 59 = _ := Option.some.inj b59
          clear b59
          have q60 : u 60 = _ := Option.some.inj b60
          clear b60
          have q61 : u 61 = _ := Option.some.inj b61
          clear b61
          have q62 : u 62 = _ := Option.some.inj b62
          clear b62
          have q63 : u 63 = _ := Option.some.inj b63
          clear b63
          have q64 : u 64 = _ := Option.some.inj b64
          clear b64
          have q65 : u 65 = _ := Option.some.inj b65
          clear b65
          have q66 : u 66 = _ := Option.some.inj b66
          clear b66
          have q67 : u 67 = _ := Option.some.inj b67
          clear b67
          have q68 : u 68 = _ := Option.some.inj b68
          clear b68
          have q69 : u 69 = _ := Option.some.inj b69
          clear b69
          have q70 : u 70 = _ := Option.some.inj b70
          clear b70
          have q71 : u 71 = _ := Option.some.inj b71
          clear b71
          have q72 : u 72 = _ := Option.some.inj b72
          clear b72
          have q73 : u 73 = _ := Option.some.inj b73
          clear b73
          have q74 : u 74 = _ := Option.some.inj b74
          clear b74
          have q0 : u 0 = _ := Option.some.inj b0
          clear b0
          have q1 : u 1 = _ := Option.some.inj b1
          clear b1
          have q2 : u 2 = _ := Option.some.inj b2
          clear b2
          have q3 : u 3 = _ := Option.some.inj b3
          clear b3
          have q4 : u 4 = _ := Option.some.inj b4
          clear b4
          have q5 : u 5 = _ := Option.some.inj b5
          clear b5
          have q6 : u 6 = _ := Option.some.inj b6
          clear b6
          have q41 : u 41 = _ := Option.some.inj e41
          clear e41
          rw [q7, q8, q9, q10, q11, q12, q13, q14, q15, q16, q17, q18, q19, q20, q21, q22, q23, q24, q25, q44, q45, q46, q47, q48, q49, q50, q51, q52, q53, q54, q55, q56, q57, q58, q59, q60, q61, q62, q63, q64, q65, q66, q67, q68, q69, q70, q71, q72, q73, q74, q0, q1, q2, q3, q4, q5, q6, q41]
          clear q7 q8 q9 q10 q11 q12 q13 q14 q15 q16 q17 q18 q19 q20 q21 q22 q23 q24 q25 q44 q45 q46 q47 q48 q49 q50 q51 q52 q53 q54 q55 q56 q57 q58 q59 q60 q61 q62 q63 q64 q65 q66 q67 q68 q69 q70 q71 q72 q73 q74 q0 q1 q2 q3 q4 q5 q6 q41
          have hbl := hB; clear hB
          replace CX := hmB CX hbl
          replace RES := hmB RES hbl
          replace HW := hmW HW hbl; clear hbl
          clear CX0 CX1
          have CX0 := CX.out.c0
          have CX1 := CX.out.c1
          refine wpList_nil ?_
          go_wp2
          go_roundw
          case rel => exact ⟨mid, hi, rfl, rfl, HW.out, CX.out, RES.out, HLH.out.2.2.2.2.2, HLH.out.2.1, HG8.out.1 hv0, HLH.out.2.2.2.1⟩
          case measure => (have := HLH.out.2.2.2.2.1; have := HLH.out.2.2.2.2.2; simp [intOf]; omega)
       · have hv1 : 0 < v8 := by omega
         refine wp_region_typed 6 (TOf [VIs (.int .u64 (mid : Int)),
          VIs (.int .i64 sz),
          VIs (.agg #[.string (dec a8), .string (dec c8)]),
          VIs (.agg #[.string (dec n), .string (dec d)]),
          VIs (.int .i64 v8),
          VIs (.bool false)]) (by kernel_rfl) (by kernel_rfl) (by kernel_rfl) (LiftAll.at_ (.cons (VIs.lift _) (.cons (VIs.lift _) (.cons (VIs.lift _) (.cons (VIs.lift _) (.cons (VIs.lift _) (.cons (VIs.lift _) .nil))))))) (steps_all (steps_cons ?_ (steps_cons ?_ (steps_cons ?_ (steps_cons ?_ (steps_cons ?_ (steps_cons ?_ steps_zero))))))) ?fin
         · intro a0 w9 K9 hF hB hK hC
           have b7 := hF.base (k := 7) (v := .int .u64 (mid : Int)) (by kernel_rfl) rfl
           clear hF hB hK
           go_simp
           exact hC _ _ (bR _) fun _ _ => rfl
         · intro a0 w9 K9 hF hB hK hC
           have b1 := hF.base (k := 1) (v := .int .i64 sz) (by kernel_rfl) rfl
           clear hF hB hK
           go_simp
           exact hC _ _ (bR _) fun _ _ => rfl
         · intro a0 w9 K9 hF hB hK hC
           have e36 := depV hK 0 rfl rfl rfl rfl
           have e37 := depV hK 1 rfl rfl rfl rfl
           have HB9 := Lib.hid hB
           clear hF hB hK
           go_simp
           refine (refFrac_is HF.out mid _ HV8.out.2.2.2.1 HV8.out.1 HV8.out.2.1).mono ?_
           rintro e w7 ⟨rfl, hbl⟩
           exact hC _ _ hbl fun _ _ => rfl
         · intro a0 w9 K9 hF hB hK hC
           have b2 := hF.base (k := 2) (v := .pointer (some ⟨w.heap.size, 0, none⟩)) (by kernel_rfl) rfl
           have x90 := (CX.out.below hB CX.out.lt).c0
           have x91 := (CX.out.below hB CX.out.lt).c1
           clear hF hB hK
           go_simp
           exact hC _ _ (bR _) fun _ _ => rfl
         · intro a0 w9 K9 hF hB hK hC
           have e38 := depV hK 0 rfl rfl rfl rfl
           have e39 := depV hK 1 rfl rfl rfl rfl
           have HB9 := Lib.hid hB
           clear hF hB hK
           go_simp
           refine (refCmp3_is a8 c8 n d _ (by have := HV8.out.2.2.2.2.1; omega) (by have := HV8.out.2.2.2.2.2; omega) (by have := HLN.out.1; omega) (by have := HLN.out.2.1; omega) HV8.out.2.2.1).mono ?_
           rintro e w7 ⟨rfl, hbl⟩
           exact hC _ _ hbl fun _ _ => rfl
         · intro a0 w9 K9 hF hB hK hC
           have e40 := depV hK 0 rfl rfl rfl rfl
           have HB9 := Lib.hid hB
           clear hF hB hK
           go_simp
           exact hC _ _ (bR _) fun _ _ => rfl
         case fin =>
          intro a0 w9 hF hB hK
          have b7 := hF.base (k := 7) (v := .int .u64 (mid : Int)) (by kernel_rfl) rfl
          have b8 := hF.base (k := 8) (v := u 8) (by kernel_rfl) rfl
          have b9 := hF.base (k := 9) (v := u 9) (by kernel_rfl) rfl
          have b10 := hF.base (k := 10) (v := u 10) (by kernel_rfl) rfl
          have b11 := hF.base (k := 11) (v := u 11) (by kernel_rfl) rfl
          have b12 := hF.base (k := 12) (v := u 12) (by kernel_rfl) rfl
          have b13 := hF.base (k := 13) (v := u 13) (by kernel_rfl) rfl
          have b14 := hF.base (k := 14) (v := u 14) (by kernel_rfl) rfl
          have b15 := hF.base (k := 15) (v := u 15) (by kernel_rfl) rfl
          have b16 := hF.base (k := 16) (v := u 16) (by kernel_rfl) rfl
          have b17 := hF.base (k := 17) (v := u 17) (by kernel_rfl) rfl
          have b18 := hF.base (k := 18) (v := u 18) (by kernel_rfl) rfl
          have b19 := hF.base (k := 19) (v := u 19) (by kernel_rfl) rfl
          have b20 := hF.base (k := 20) (v := u 20) (by kernel_rfl) rfl
          have b21 := hF.base (k := 21) (v := u 21) (by kernel_rfl) rfl
          have b22 := hF.base (k := 22) (v := u 22) (by kernel_rfl) rfl
          have b23 := hF.base (k := 23) (v := .bool false) (by kernel_rfl) rfl
          have b24 := hF.base (k := 24) (v := u 24) (by kernel_rfl) rfl
          have b25 := hF.base (k := 25) (v := u 25) (by kernel_rfl) rfl
          have b44 := hF.base (k := 44) (v := u 44) (by kernel_rfl) rfl
          have b45 := hF.base (k := 45) (v := u 45) (by kernel_rfl) rfl
          have b46 := hF.base (k := 46) (v := u 46) (by kernel_rfl) rfl
          have b47 := hF.base (k := 47) (v := u 47) (by kernel_rfl) rfl
          have b48 := hF.base (k := 48) (v := u 48) (by kernel_rfl) rfl
          have b49 := hF.base (k := 49) (v := u 49) (by kernel_rfl) rfl
          have b50 := hF.base (k := 50) (v := u 50) (by kernel_rfl) rfl
          have b51 := hF.base (k := 51) (v := u 51) (by kernel_rfl) rfl
          have b52 := hF.base (k := 52) (v := u 52) (by kernel_rfl) rfl
          have b53 := hF.base (k := 53) (v := u 53) (by kernel_rfl) rfl
          have b54 := hF.base (k := 54) (v := u 54) (by kernel_rfl) rfl
          have b55 := hF.base (k := 55) (v := u 55) (by kernel_rfl) rfl
          have b56 := hF.base (k := 56) (v := u 56) (by kernel_rfl) rfl
          have b57 := hF.base (k := 57) (v := u 57) (by kernel_rfl) rfl
          have b58 := hF.base (k := 58) (v := u 58) (by kernel_rfl) rfl
          have b59 := hF.base (k := 59) (v := u 59) (by kernel_rfl) rfl
          have b60 := hF.base (k := 60) (v := u 60) (by kernel_rfl) rfl
          have b61 := hF.base (k := 61) (v := u 61) (by kernel_rfl) rfl
          have b62 := hF.base (k := 62) (v := u 62) (by kernel_rfl) rfl
          have b63 := hF.base (k := 63) (v := u 63) (by kernel_rfl) rfl
          have b64 := hF.base (k := 64) (v := u 64) (by kernel_rfl) rfl
          have b65 := hF.base (k := 65) (v := u 65) (by kernel_rfl) rfl
          have b66 := hF.base (k := 66) (v := u 66) (by kernel_rfl) rfl
          have b67 := hF.base (k := 67) (v := u 67) (by kernel_rfl) rfl
          have b68 := hF.base (k := 68) (v := u 68) (by kernel_rfl) rfl
          have b69 := hF.base (k := 69) (v := u 69) (by kernel_rfl) rfl
          have b70 := hF.base (k := 70) (v := u 70) (by kernel_rfl) rfl
          have b71 := hF.base (k := 71) (v := u 71) (by kernel_rfl) rfl
          have b72 := hF.base (k := 72) (v := u 72) (by kernel_rfl) rfl
          have b73 := hF.base (k := 73) (v := u 73) (by kernel_rfl) rfl
          have b74 := hF.base (k := 74) (v := u 74) (by kernel_rfl) rfl
          have b0 := hF.base (k := 0) (v := .agg #[.string (dec n), .string (dec d)]) (by kernel_rfl) rfl
          have b1 := hF.base (k := 1) (v := .int .i64 sz) (by kernel_rfl) rfl
          have b2 := hF.base (k := 2) (v := .pointer (some ⟨w.heap.size, 0, none⟩)) (by kernel_rfl) rfl
          have b3 := hF.base (k := 3) (v := u 3) (by kernel_rfl) rfl
          have b4 := hF.base (k := 4) (v := .pointer (some ⟨w.heap.size + 1, 0, none⟩)) (by kernel_rfl) rfl
          have b5 := hF.base (k := 5) (v := .int .u64 (lo : Int)) (by kernel_rfl) rfl
          have b6 := hF.base (k := 6) (v := .int .u64 (hi : Int)) (by kernel_rfl) rfl
          have hsz := hF.size
          have hdf := hF.defers
          clear hF
          obtain ⟨v41, e41, z41⟩ := known hK 5 (k := 41) (by decide) rfl
          have z41 : v41 = .bool false := z41
          subst z41
          clear hK
          obtain ⟨⟨l0⟩, df⟩ := a0
          have hs0 : l0.length = 75 := hsz
          clear hsz
          replace hdf : df = _ := hdf
          subst hdf
          obtain ⟨u, rfl⟩ := lits_75 hs0
          clear hs0
          generalize hAr : (Array.mk [u 0, u 1, u 2, u 3, u 4, u 5, u 6, u 7, u 8, u 9, u 10, u 11, u 12, u 13, u 14, u 15, u 16, u 17, u 18, u 19, u 20, u 21, u 22, u 23, u 24, u 25, u 26, u 27, u 28, u 29, u 30, u 31, u 32, u 33, u 34, u 35, u 36, u 37, u 38, u 39, u 40, u 41, u 42, u 43, u 44, u 45, u 46, u 47, u 48, u 49, u 50, u 51, u 52, u 53, u 54, u 55, u 56, u 57, u 58, u 59, u 60, u 61, u 62, u 63, u 64, u 65, u 66, u 67, u 68, u 69, u 70, u 71, u 72, u 73, u 74] : Array Value) = ar
          obtain rfl : ar = #[u 0, u 1, u 2, u 3, u 4, u 5, u 6, u 7, u 8, u 9, u 10, u 11, u 12, u 13, u 14, u 15, u 16, u 17, u 18, u 19, u 20, u 21, u 22, u 23, u 24, u 25, u 26, u 27, u 28, u 29, u 30, u 31, u 32, u 33, u 34, u 35, u 36, u 37, u 38, u 39, u 40, u 41, u 42, u 43, u 44, u 45, u 46, u 47, u 48, u 49, u 50, u 51, u 52, u 53, u 54, u 55, u 56, u 57, u 58, u 59, u 60, u 61, u 62, u 63, u 64, u 65, u 66, u 67, u 68, u 69, u 70, u 71, u 72, u 73, u 74] := hAr.symm
          have q7 : u 7 = _ := Option.some.inj b7
          clear b7
          have q8 : u 8 = _ := Option.some.inj b8
          clear b8
          have q9 : u 9 = _ := Option.some.inj b9
          clear b9
          have q10 : u 10 = _ := Option.some.inj b10
          clear b10
          have q11 : u 11 = _ := Option.some.inj b11
          clear b11
          have q12 : u 12 = _ := Option.some.inj b12
          clear b12
          have q13 : u 13 = _ := Option.some.inj b13
          clear b13
          have q14 : u 14 = _ := Option.some.inj b14
          clear b14
          have q15 : u 15 = _ := Option.some.inj b15
          clear b15
          have q16 : u 16 = _ := Option.some.inj b16
          clear b16
          have q17 : u 17 = _ := Option.some.inj b17
          clear b17
          have q18 : u 18 = _ := Option.some.inj b18
          clear b18
          have q19 : u 19 = _ := Option.some.inj b19
          clear b19
          have q20 : u 20 = _ := Option.some.inj b20
          clear b20
          have q21 : u 21 = _ := Option.some.inj b21
          clear b21
          have q22 : u 22 = _ := Option.some.inj b22
          clear b22
          have q23 : u 23 = _ := Option.some.inj b23
          clear b23
          have q24 : u 24 = _ := Option.some.inj b24
          clear b24
          have q25 : u 25 = _ := Option.some.inj b25
          clear b25
          have q44 : u 44 = _ := Option.some.inj b44
          clear b44
          have q45 : u 45 = _ := Option.some.inj b45
          clear b45
          have q46 : u 46 = _ := Option.some.inj b46
          clear b46
          have q47 : u 47 = _ := Option.some.inj b47
          clear b47
          have q48 : u 48 = _ := Option.some.inj b48
          clear b48
          have q49 : u 49 = _ := Option.some.inj b49
          clear b49
          have q50 : u 50 = _ := Option.some.inj b50
          clear b50
          have q51 : u 51 = _ := Option.some.inj b51
          clear b51
          have q52 : u 52 = _ := Option.some.inj b52
          clear b52
          have q53 : u 53 = _ := Option.some.inj b53
          clear b53
          have q54 : u 54 = _ := Option.some.inj b54
          clear b54
          have q55 : u 55 = _ := Option.some.inj b55
          clear b55
          have q56 : u 56 = _ := Option.some.inj b56
          clear b56
          have q57 : u 57 = _ := Option.some.inj b57
          clear b57
          have q58 : u 58 = _ := Option.some.inj b58
          clear b58
          have q59 : u 59 = _ := Option.some.inj b59
          clear b59
          have q60 : u 60 = _ := Option.some.inj b60
          clear b60
          have q61 : u 61 = _ := Option.some.inj b61
          clear b61
          have q62 : u 62 = _ := Option.some.inj b62
          clear b62
          have q63 : u 63 = _ := Option.some.inj b63
          clear b63
          have q64 : u 64 = _ := Option.some.inj b64
          clear b64
          have q65 : u 65 = _ := Option.some.inj b65
          clear b65
          have q66 : u 66 = _ := Option.some.inj b66
          clear b66
          have q67 : u 67 = _ := Option.some.inj b67
          clear b67
          have q68 : u 68 = _ := Option.some.inj b68
          clear b68
          have q69 : u 69 = _ := Option.some.inj b69
          clear b69
          have q70 : u 70 = _ := Option.some.inj b70
          clear b70
          have q71 : u 71 = _ := Option.some.inj b71
          clear b71
          have q72 : u 72 = _ := Option.some.inj b72
          clear b72
          have q73 : u 73 = _ := Option.some.inj b73
          clear b73
          have q74 : u 74 = _ := Option.some.inj b74
          clear b74
          have q0 : u 0 = _ := Option.some.inj b0
          clear b0
          have q1 : u 1 = _ := Option.some.inj b1
          clear b1
          have q2 : u 2 = _ := Option.some.inj b2
          clear b2
          have q3 : u 3 = _ := Option.some.inj b3
          clear b3
          have q4 : u 4 = _ := Option.some.inj b4
          clear b4
          have q5 : u 5 = _ := Option.some.inj b5
          clear b5
          have q6 : u 6 = _ := Option.some.inj b6
          clear b6
          have q41 : u 41 = _ := Option.some.inj e41
          clear e41
          rw [q7, q8, q9, q10, q11, q12, q13, q14, q15, q16, q17, q18, q19, q20, q21, q22, q23, q24, q25, q44, q45, q46, q47, q48, q49, q50, q51, q52, q53, q54, q55, q56, q57, q58, q59, q60, q61, q62, q63, q64, q65, q66, q67, q68, q69, q70, q71, q72, q73, q74, q0, q1, q2, q3, q4, q5, q6, q41]
          clear q7 q8 q9 q10 q11 q12 q13 q14 q15 q16 q17 q18 q19 q20 q21 q22 q23 q24 q25 q44 q45 q46 q47 q48 q49 q50 q51 q52 q53 q54 q55 q56 q57 q58 q59 q60 q61 q62 q63 q64 q65 q66 q67 q68 q69 q70 q71 q72 q73 q74 q0 q1 q2 q3 q4 q5 q6 q41
          have hbl := hB; clear hB
          replace CX := hmB CX hbl
          replace RES := hmB RES hbl
          replace HW := hmW HW hbl; clear hbl
          clear CX0 CX1
          have CX0 := CX.out.c0
          have CX1 := CX.out.c1
          refine wpList_nil ?_
          go_wp2
          go_roundw
          case rel => exact ⟨lo, mid, rfl, rfl, HW.out, CX.out, RES.out, HLH.out.2.2.2.2.1, by have := HLH.out.2.1; have := HLH.out.2.2.2.2.2; omega, HLH.out.2.2.1, by rcases Nat.lt_or_ge (n * 2 ^ q) (V p mid * d) with h | h; exact h; exact absurd (HG8.out.2 h) hv0⟩
          case measure => (have := HLH.out.2.2.2.2.1; have := HLH.out.2.2.2.2.2; simp [intOf]; omega)
     · have c1 : ¬ (1 : Int) < (G : Int) := by omega
       have hhi : hi = lo + 1 := by omega
       have hloH : lo ≤ (t + q + 2) * 2 ^ (p - 1) := by rw [← HHI.out.1]; omega
       have hhiH : hi ≤ (t + q + 2) * 2 ^ (p - 1) := by rw [← HHI.out.1]; omega
       have hloF := F_le.2 hlow
       have hhiF := F_lt.2 hhigh
       have hcode := HC.out.uniq (near_code (Nat.pos_of_ne_zero HN.out.2.2) hlow (by rw [← hhi]; exact hhigh)) (Nat.pos_of_ne_zero HN.out.2.2)
       rw [← hhi] at hcode
       have y1 := FN_len HF.out hloH
       have y2 := FD_len (b := lo) HF.out
       have y3 := FN_len HF.out hhiH
       have y4 := FD_len (b := hi) HF.out
       have z2 := FD_pos p q lo
       obtain ⟨a1, ea1⟩ : ∃ a, FN p q lo = a := ⟨_, rfl⟩
       obtain ⟨c1_, ec1_⟩ : ∃ a, FD p q lo = a := ⟨_, rfl⟩
       obtain ⟨a2, ea2⟩ : ∃ a, FN p q hi = a := ⟨_, rfl⟩
       obtain ⟨c2, ec2⟩ : ∃ a, FD p q hi = a := ⟨_, rfl⟩
       rw [ea1, ec1_, ea2, ec2] at hcode
       rw [ea1, ec1_] at hloF
       rw [ea2, ec2] at hhiF
       rw [ea1] at y1
       rw [ec1_] at y2 z2
       rw [ea2] at y3
       rw [ec2] at y4
       obtain ⟨dn, edn⟩ : ∃ a, n * c1_ - a1 * d = a := ⟨_, rfl⟩
       obtain ⟨dd, edd⟩ : ∃ a, d * c1_ = a := ⟨_, rfl⟩
       obtain ⟨un, eun⟩ : ∃ a, a2 * d - n * c2 = a := ⟨_, rfl⟩
       obtain ⟨ud, eud⟩ : ∃ a, c2 * d = a := ⟨_, rfl⟩
       rw [edn, edd, eun, eud] at hcode
       have hun : 0 < un := by omega
       have hdd : 0 < dd := by rw [← edd]; exact Nat.mul_pos (Nat.pos_of_ne_zero HN.out.2.2) z2
       have k1 := decL_mul3 n c1_
       have k2 := decL_mul3 d c1_
       have k3 := decL_mul3 a2 d
       have k4 := decL_mul3 c2 d
       have l1 := HLN.out.1
       have l2 := HLN.out.2.1
       have k5 : (decL dn).length ≤ 600 := Nat.le_trans (decL_mono (by rw [← edn]; exact Nat.sub_le _ _)) (Nat.le_trans k1 (by omega))
       have k6 : (decL un).length ≤ 600 := Nat.le_trans (decL_mono (by rw [← eun]; exact Nat.sub_le _ _)) (Nat.le_trans k3 (by omega))
       rw [edd] at k2
       rw [eud] at k4
       obtain ⟨v7, hv7⟩ : ∃ v, cmpI ((dn * ud : Nat) : Int) ((un * dd : Nat) : Int) = v := ⟨_, rfl⟩
       have g1 : 0 < v7 ↔ un * dd < dn * ud := by rw [← hv7]; exact cmpI_pos
       have g2 : v7 = 0 ↔ dn * ud = un * dd := by rw [← hv7]; exact cmpI_zero
       have HLE := Lib.hid (And.intro hloF (Nat.le_of_lt hhiF)); clear hloF hhiF
       have HE := Lib.hid (And.intro hloH (And.intro hhiH (And.intro ea1 (And.intro ec1_ (And.intro ea2 ec2))))); clear hloH hhiH ea1 ec1_ ea2 ec2 z2
       have HD := Lib.hid (And.intro edn (And.intro edd (And.intro eun (And.intro eud hv7)))); clear edn edd eun eud hv7
       have HK := Lib.hid (show (decL a1).length ≤ 1000 ∧ (decL c1_).length ≤ 1000 ∧ (decL a2).length ≤ 1000 ∧ (decL c2).length ≤ 1000 ∧ (decL dn).length ≤ 1000 ∧ (decL dd).length ≤ 1000 ∧ (decL un).length ≤ 1000 ∧ (decL ud).length ≤ 1000 by omega); clear y1 y2 y3 y4 k1 k2 k3 k4 k5 k6
       have HL1 := Lib.hid (show (decL n).length ≤ 1000 ∧ (decL d).length ≤ 1000 by omega); clear l1 l2
       have HCD := Lib.hid (And.intro hcode (And.intro g1 (And.intro g2 (And.intro hun (And.intro hdd (And.intro hhi htop)))))); clear hcode g1 g2 hun hdd hhi htop htop2 hlow hhigh hlt hG hg
       go_upto_region 10 with fail
       clear s1 c1
       have hsz0 : w.heap.size + 1 < wr.heap.size := RES.out.lt
       refine wp_region_typed 6 (TOf [VIs (.agg #[.string (dec n), .string (dec d)]),
        VIs (.int .u64 (lo : Int)),
        VIs (.int .i64 sz),
        VIs (.agg #[.string (dec a1), .string (dec c1_)]),
        VIs (.agg #[.string (dec dn), .string (dec dd)]),
        VNewF3 wr.heap.size 132 #[.string ⟨#[]⟩, .string ⟨#[]⟩]]) (by kernel_rfl) (by kernel_rfl) (by kernel_rfl) (LiftAll.at_ (.cons (VIs.lift _) (.cons (VIs.lift _) (.cons (VIs.lift _) (.cons (VIs.lift _) (.cons (VIs.lift _) (.cons (VNewF3.lift _ _ _) .nil))))))) (steps_all (steps_cons ?_ (steps_cons ?_ (steps_cons ?_ (steps_cons ?_ (steps_cons ?_ (steps_cons ?_ steps_zero))))))) ?fin
       · intro a0 w9 K9 hF hB hK hC
         have b2 := hF.base (k := 2) (v := .pointer (some ⟨w.heap.size, 0, none⟩)) (by kernel_rfl) rfl
         have x90 := (CX.out.below hB CX.out.lt).c0
         have x91 := (CX.out.below hB CX.out.lt).c1
         clear hF hB hK
         go_simp
         exact hC _ _ (bR _) fun _ _ => rfl
       · intro a0 w9 K9 hF hB hK hC
         have b5 := hF.base (k := 5) (v := .int .u64 (lo : Int)) (by kernel_rfl) rfl
         clear hF hB hK
         go_simp
         exact hC _ _ (bR _) fun _ _ => rfl
       · intro a0 w9 K9 hF hB hK hC
         have b1 := hF.base (k := 1) (v := .int .i64 sz) (by kernel_rfl) rfl
         clear hF hB hK
         go_simp
         exact hC _ _ (bR _) fun _ _ => rfl
       · intro a0 w9 K9 hF hB hK hC
         have e45 := depV hK 0 rfl rfl rfl rfl
         have e46 := depV hK 1 rfl rfl rfl rfl
         have HB9 := Lib.hid hB
         clear hF hB hK
         go_simp
         refine (refFrac_is HF.out lo _ HE.out.1 HE.out.2.2.1 HE.out.2.2.2.1).mono ?_
         rintro e w7 ⟨rfl, hbl⟩
         exact hC _ _ hbl fun _ _ => rfl
       · intro a0 w9 K9 hF hB hK hC
         have e44 := depV hK 0 rfl rfl rfl rfl
         have e47 := depV hK 1 rfl rfl rfl rfl
         have HB9 := Lib.hid hB
         clear hF hB hK
         go_simp
         refine (refLess3_is n d a1 c1_ _ HL1.out.1 HL1.out.2 HK.out.1 HK.out.2.1 HLE.out.1 HD.out.1 HD.out.2.1).mono ?_
         rintro e w7 ⟨rfl, hbl⟩
         exact hC _ _ hbl fun _ _ => rfl
       · intro a0 w9 K9 hF hB hK hC
         have HB9 := Lib.hid hB
         clear hF hB hK
         go_simp
         exact hC _ _ (bel_alloc (bel_refl _) _) fun _ _ => ⟨_, rfl, HB9.out.size, Blk.new _ _ _⟩
       case fin =>
        intro a0 w9 hF hB hK
        have b0 := hF.base (k := 0) (v := .agg #[.string (dec n), .string (dec d)]) (by kernel_rfl) rfl
        have b1 := hF.base (k := 1) (v := .int .i64 sz) (by kernel_rfl) rfl
        have b2 := hF.base (k := 2) (v := .pointer (some ⟨w.heap.size, 0, none⟩)) (by kernel_rfl) rfl
        have b4 := hF.base (k := 4) (v := .pointer (some ⟨w.heap.size + 1, 0, none⟩)) (by kernel_rfl) rfl
        have b5 := hF.base (k := 5) (v := .int .u64 (lo : Int)) (by kernel_rfl) rfl
        have b6 := hF.base (k := 6) (v := .int .u64 (hi : Int)) (by kernel_rfl) rfl
        have hsz := hF.size
        have hdf := hF.defers
        clear hF
        obtain ⟨v8, e8, z8⟩ := known hK 5 (k := 8) (by decide) rfl
        have z8 : ∃ g, v8 = .pointer (some ⟨g, 0, none⟩) ∧ wr.heap.size ≤ g ∧ Blk w9 g 132 #[.string ⟨#[]⟩, .string ⟨#[]⟩] := z8
        obtain ⟨gd, rfl, hgd, Zgd⟩ := z8
        obtain ⟨v48, e48, z48⟩ := known hK 4 (k := 48) (by decide) rfl
        have z48 : v48 = .agg #[.string (dec dn), .string (dec dd)] := z48
        subst z48
        clear hK
        obtain ⟨⟨l0⟩, df⟩ := a0
        have hs0 : l0.length = 75 := hsz
        clear hsz
        replace hdf : df = _ := hdf
        subst hdf
        obtain ⟨u, rfl⟩ := lits_75 hs0
        clear hs0
        have q0 : u 0 = _ := Option.some.inj b0
        clear b0
        have q1 : u 1 = _ := Option.some.inj b1
        clear b1
        have q2 : u 2 = _ := Option.some.inj b2
        clear b2
        have q4 : u 4 = _ := Option.some.inj b4
        clear b4
        have q5 : u 5 = _ := Option.some.inj b5
        clear b5
        have q6 : u 6 = _ := Option.some.inj b6
        clear b6
        have q8 : u 8 = _ := Option.some.inj e8
        clear e8
        have q48 : u 48 = _ := Option.some.inj e48
        clear e48
        rw [q0, q1, q2, q4, q5, q6, q8, q48]
        clear q0 q1 q2 q4 q5 q6 q8 q48
        have hbl := hB; clear hB
        replace CX := hmB CX hbl
        replace RES := hmB RES hbl
        replace HW := hmW HW hbl; clear hbl
        clear CX0 CX1
        have CX0 := CX.out.c0
        have CX1 := CX.out.c1
        simp only [List.drop_succ_cons, List.drop_zero]
        have gl : w.heap.size + 1 < gd := by omega
        replace Zgd := Lib.hid Zgd
        have VD := Zgd; clear Zgd
        have d0 := VD.out.c0
        have f0 := VD.out.frozen 0
        have d1 := VD.out.c1
        have f1 := VD.out.frozen 1
        go_upto_region 11 with fail
        clear d0 d1 f0 f1
        obtain ⟨wgd, hwgd⟩ : ∃ wgd, wgd = ((w9.setCell ⟨gd, 0, none⟩ (.string (dec dn))).setCell ⟨gd, 1, none⟩ (.string (dec dd))) := ⟨_, rfl⟩
        rw [← hwgd]
        replace CX := Lib.hid (show Blk wgd (w.heap.size) 132 #[.string (dec n), .string (dec d)] by rw [hwgd]; exact ((CX.out).far (p := ⟨gd, 0, none⟩) (by simp; omega) _).far (p := ⟨gd, 1, none⟩) (by simp; omega) _)
        replace RES := Lib.hid (show Blk wgd (w.heap.size + 1) 129 #[.int .u64 0, .bool false] by rw [hwgd]; exact ((RES.out).far (p := ⟨gd, 0, none⟩) (by simp; omega) _).far (p := ⟨gd, 1, none⟩) (by simp; omega) _)
        replace VD := Lib.hid (show Blk wgd (gd) 132 #[.string (dec dn), .string (dec dd)] by rw [hwgd]; exact ((VD.out).put 0 (.string (dec dn))).put 1 (.string (dec dd)))
        replace HW := Lib.hid (show Below w.heap.size w wgd by rw [hwgd]; exact bel_set (p := ⟨gd, 1, none⟩) (bel_set (p := ⟨gd, 0, none⟩) (HW.out) (by show w.heap.size ≤ gd; omega) _) (by show w.heap.size ≤ gd; omega) _)
        clear hwgd
        clear CX0 CX1
        have CX0 := CX.out.c0
        have CX1 := CX.out.c1
        have hgd2 : gd < wgd.heap.size := VD.out.lt
        refine wp_region_typed 6 (TOf [VIs (.int .u64 (hi : Int)),
         VIs (.int .i64 sz),
         VIs (.agg #[.string (dec a2), .string (dec c2)]),
         VIs (.agg #[.string (dec n), .string (dec d)]),
         VIs (.agg #[.string (dec un), .string (dec ud)]),
         VNewF3 wgd.heap.size 132 #[.string ⟨#[]⟩, .string ⟨#[]⟩]]) (by kernel_rfl) (by kernel_rfl) (by kernel_rfl) (LiftAll.at_ (.cons (VIs.lift _) (.cons (VIs.lift _) (.cons (VIs.lift _) (.cons (VIs.lift _) (.cons (VIs.lift _) (.cons (VNewF3.lift _ _ _) .nil))))))) (steps_all (steps_cons ?_ (steps_cons ?_ (steps_cons ?_ (steps_cons ?_ (steps_cons ?_ (steps_cons ?_ steps_zero))))))) ?fin
        · intro a0 w9 K9 hF hB hK hC
          have b6 := hF.base (k := 6) (v := .int .u64 (hi : Int)) (by kernel_rfl) rfl
          clear hF hB hK
          go_simp
          exact hC _ _ (bR _) fun _ _ => rfl
        · intro a0 w9 K9 hF hB hK hC
          have b1 := hF.base (k := 1) (v := .int .i64 sz) (by kernel_rfl) rfl
          clear hF hB hK
          go_simp
          exact hC _ _ (bR _) fun _ _ => rfl
        · intro a0 w9 K9 hF hB hK hC
          have e49 := depV hK 0 rfl rfl rfl rfl
          have e50 := depV hK 1 rfl rfl rfl rfl
          have HB9 := Lib.hid hB
          clear hF hB hK
          go_simp
          refine (refFrac_is HF.out hi _ HE.out.2.1 HE.out.2.2.2.2.1 HE.out.2.2.2.2.2).mono ?_
          rintro e w7 ⟨rfl, hbl⟩
          exact hC _ _ hbl fun _ _ => rfl
        · intro a0 w9 K9 hF hB hK hC
          have b2 := hF.base (k := 2) (v := .pointer (some ⟨w.heap.size, 0, none⟩)) (by kernel_rfl) rfl
          have x90 := (CX.out.below hB CX.out.lt).c0
          have x91 := (CX.out.below hB CX.out.lt).c1
          clear hF hB hK
          go_simp
          exact hC _ _ (bR _) fun _ _ => rfl
        · intro a0 w9 K9 hF hB hK hC
          have e51 := depV hK 0 rfl rfl rfl rfl
          have e52 := depV hK 1 rfl rfl rfl rfl
          have HB9 := Lib.hid hB
          clear hF hB hK
          go_simp
          refine (refLess3_is a2 c2 n d _ HK.out.2.2.1 HK.out.2.2.2.1 HL1.out.1 HL1.out.2 HLE.out.2 HD.out.2.2.1 HD.out.2.2.2.1).mono ?_
          rintro e w7 ⟨rfl, hbl⟩
          exact hC _ _ hbl fun _ _ => rfl
        · intro a0 w9 K9 hF hB hK hC
          have HB9 := Lib.hid hB
          clear hF hB hK
          go_simp
          exact hC _ _ (bel_alloc (bel_refl _) _) fun _ _ => ⟨_, rfl, HB9.out.size, Blk.new _ _ _⟩
        case fin =>
         intro a0 w9 hF hB hK
         have b0 := hF.base (k := 0) (v := .agg #[.string (dec n), .string (dec d)]) (by kernel_rfl) rfl
         have b1 := hF.base (k := 1) (v := .int .i64 sz) (by kernel_rfl) rfl
         have b2 := hF.base (k := 2) (v := .pointer (some ⟨w.heap.size, 0, none⟩)) (by kernel_rfl) rfl
         have b4 := hF.base (k := 4) (v := .pointer (some ⟨w.heap.size + 1, 0, none⟩)) (by kernel_rfl) rfl
         have b5 := hF.base (k := 5) (v := .int .u64 (lo : Int)) (by kernel_rfl) rfl
         have b6 := hF.base (k := 6) (v := .int .u64 (hi : Int)) (by kernel_rfl) rfl
         have b8 := hF.base (k := 8) (v := .pointer (some ⟨gd, 0, none⟩)) (by kernel_rfl) rfl
         have hsz := hF.size
         have hdf := hF.defers
         clear hF
         obtain ⟨v9, e9, z9⟩ := known hK 5 (k := 9) (by decide) rfl
         have z9 : ∃ g, v9 = .pointer (some ⟨g, 0, none⟩) ∧ wgd.heap.size ≤ g ∧ Blk w9 g 132 #[.string ⟨#[]⟩, .string ⟨#[]⟩] := z9
         obtain ⟨gu, rfl, hgu, Zgu⟩ := z9
         obtain ⟨v53, e53, z53⟩ := known hK 4 (k := 53) (by decide) rfl
         have z53 : v53 = .agg #[.string (dec un), .string (dec ud)] := z53
         subst z53
         clear hK
         obtain ⟨⟨l0⟩, df⟩ := a0
         have hs0 : l0.length = 75 := hsz
         clear hsz
         replace hdf : df = _ := hdf
         subst hdf
         obtain ⟨u, rfl⟩ := lits_75 hs0
         clear hs0
         have q0 : u 0 = _ := Option.some.inj b0
         clear b0
         have q1 : u 1 = _ := Option.some.inj b1
         clear b1
         have q2 : u 2 = _ := Option.some.inj b2
         clear b2
         have q4 : u 4 = _ := Option.some.inj b4
         clear b4
         have q5 : u 5 = _ := Option.some.inj b5
         clear b5
         have q6 : u 6 = _ := Option.some.inj b6
         clear b6
         have q8 : u 8 = _ := Option.some.inj b8
         clear b8
         have q9 : u 9 = _ := Option.some.inj e9
         clear e9
         have q53 : u 53 = _ := Option.some.inj e53
         clear e53
         rw [q0, q1, q2, q4, q5, q6, q8, q9, q53]
         clear q0 q1 q2 q4 q5 q6 q8 q9 q53
         have hbl := hB; clear hB
         replace CX := hmB CX hbl
         replace RES := hmB RES hbl
         replace VD := hmB VD hbl
         replace HW := hmW HW hbl; clear hbl
         clear CX0 CX1
         have CX0 := CX.out.c0
         have CX1 := CX.out.c1
         simp only [List.drop_succ_cons, List.drop_zero]
         have gl2 : gd < gu := by omega
         have gl3 : w.heap.size + 1 < gu := by omega
         replace Zgu := Lib.hid Zgu
         have VU := Zgu; clear Zgu
         have d0 := VU.out.c0
         have f0 := VU.out.frozen 0
         have d1 := VU.out.c1
         have f1 := VU.out.frozen 1
         go_upto_region 12 with fail
         clear d0 d1 f0 f1
         obtain ⟨wgu, hwgu⟩ : ∃ wgu, wgu = ((w9.setCell ⟨gu, 0, none⟩ (.string (dec un))).setCell ⟨gu, 1, none⟩ (.string (dec ud))) := ⟨_, rfl⟩
         rw [← hwgu]
         replace CX := Lib.hid (show Blk wgu (w.heap.size) 132 #[.string (dec n), .string (dec d)] by rw [hwgu]; exact ((CX.out).far (p := ⟨gu, 0, none⟩) (by simp; omega) _).far (p := ⟨gu, 1, none⟩) (by simp; omega) _)
         replace RES := Lib.hid (show Blk wgu (w.heap.size + 1) 129 #[.int .u64 0, .bool false] by rw [hwgu]; exact ((RES.out).far (p := ⟨gu, 0, none⟩) (by simp; omega) _).far (p := ⟨gu, 1, none⟩) (by simp; omega) _)
         replace VD := Lib.hid (show Blk wgu (gd) 132 #[.string (dec dn), .string (dec dd)] by rw [hwgu]; exact ((VD.out).far (p := ⟨gu, 0, none⟩) (by simp; omega) _).far (p := ⟨gu, 1, none⟩) (by simp; omega) _)
         replace VU := Lib.hid (show Blk wgu (gu) 132 #[.string (dec un), .string (dec ud)] by rw [hwgu]; exact ((VU.out).put 0 (.string (dec un))).put 1 (.string (dec ud)))
         replace HW := Lib.hid (show Below w.heap.size w wgu by rw [hwgu]; exact bel_set (p := ⟨gu, 1, none⟩) (bel_set (p := ⟨gu, 0, none⟩) (HW.out) (by show w.heap.size ≤ gu; omega) _) (by show w.heap.size ≤ gu; omega) _)
         clear hwgu
         clear CX0 CX1
         have CX0 := CX.out.c0
         have CX1 := CX.out.c1
         clear CX0 CX1
         have VD0 := VD.out.c0
         have VD1 := VD.out.c1
         have VU0 := VU.out.c0
         have VU1 := VU.out.c1
         go_wp2_with fail
         refine (refCmp3_is dn dd un ud _ HK.out.2.2.2.2.1 HK.out.2.2.2.2.2.1 HK.out.2.2.2.2.2.2.1 HK.out.2.2.2.2.2.2.2 HD.out.2.2.2.2).mono ?_
         rintro e w4 ⟨rfl, hbl⟩
         replace CX := hmB CX hbl
         replace RES := hmB RES hbl
         replace VD := hmB VD hbl
         replace VU := hmB VU hbl
         replace HW := hmW HW hbl; clear hbl
         clear VD0 VD1 VU0 VU1
         have VD0 := VD.out.c0
         have VD1 := VD.out.c1
         have VU0 := VU.out.c0
         have VU1 := VU.out.c1
         by_cases hp : 0 < v7
         · have hq := HCD.out.2.1.1 hp
           have hdn : dn ≠ 0 := by rintro rfl; rw [Nat.zero_mul] at hq; omega
           have HQ := Lib.hid (And.intro hq hdn); clear hq hdn
           have d0 := RES.out.c0
           have f0 := RES.out.frozen 0
           have d1 := RES.out.c1
           have f1 := RES.out.frozen 1
           have D := Lib.hid (And.intro (RES.out.put2 (.int .u64 (hi : Int)) (.bool false)) (bel_set2 (g := w.heap.size + 1) HW.out (by omega) (.int .u64 (hi : Int)) (.bool false)))
           go_wp2
           exact bodyPost_ret (results_cell_row rfl _ _ (w.heap.size + 1) 129 _ (0, 0) _ rfl D.out.1 Tryz.underlying129 rfl (by kernel_rfl)) rfl ((by rw [← HHI.out.1]; exact RetNear.fit (by rw [HCD.out.1.1]; rw [decide_eq_true HQ.out.1]; have h1 := HCD.out.2.2.2.2.2.1; have h2 := HCD.out.2.2.2.2.2.2; simp; omega) (by rw [HCD.out.1.1]; rw [decide_eq_true HQ.out.1]; have h1 := HCD.out.2.2.2.2.2.1; have h2 := HCD.out.2.2.2.2.2.2; simp; omega) (by rw [HCD.out.1.2]; exact decide_eq_false HQ.out.2) (fun _ => rfl) D.out.2))
         · by_cases hz : v7 = 0
           · have hz2 : (v7 == 0) = true := by simp [hz]
             have hq := HCD.out.2.2.1.1 hz
             have hdn : dn ≠ 0 := by rintro rfl; rw [Nat.zero_mul] at hq; exact absurd hq.symm (Nat.ne_of_gt (Nat.mul_pos HCD.out.2.2.2.1 HCD.out.2.2.2.2.1))
             have HQ := Lib.hid (And.intro hq hdn); clear hq hdn
             obtain ⟨o, ho⟩ : ∃ o, decide (lo % 2 = 1) = o := ⟨_, rfl⟩
             have q1 : ((lo : Int) % 2 == 1) = o := by rw [← ho]; exact odd_beq lo
             have HO := Lib.hid ho; clear ho
             cases o
             · have e1 := dec_is0 dn
               rw [decide_eq_false HQ.out.2] at e1
               have d0 := RES.out.c0
               have f0 := RES.out.frozen 0
               have d1 := RES.out.c1
               have f1 := RES.out.frozen 1
               have D := Lib.hid (And.intro (RES.out.put2 (.int .u64 (lo : Int)) (.bool false)) (bel_set2 (g := w.heap.size + 1) HW.out (by omega) (.int .u64 (lo : Int)) (.bool false)))
               go_wp2
               exact bodyPost_ret (results_cell_row rfl _ _ (w.heap.size + 1) 129 _ (0, 0) _ rfl D.out.1 Tryz.underlying129 rfl (by kernel_rfl)) rfl ((by rw [← HHI.out.1]; exact RetNear.fit (by rw [HCD.out.1.1]; rw [HO.out, decide_eq_false (show ¬ un * dd < dn * ud by rw [HQ.out.1]; exact Nat.lt_irrefl _), decide_eq_true HQ.out.1]; have h1 := HCD.out.2.2.2.2.2.1; have h2 := HCD.out.2.2.2.2.2.2; simp; omega) (by rw [HCD.out.1.1]; rw [HO.out, decide_eq_false (show ¬ un * dd < dn * ud by rw [HQ.out.1]; exact Nat.lt_irrefl _), decide_eq_true HQ.out.1]; have h1 := HCD.out.2.2.2.2.2.1; have h2 := HCD.out.2.2.2.2.2.2; simp) (by rw [HCD.out.1.2]; exact decide_eq_false HQ.out.2) (fun _ => rfl) D.out.2))
             · have d0 : w4.cell? ⟨w.heap.size + 1, 0, none⟩ = some (.int .u64 0) := RES.out.cell 0
               have f0 := RES.out.frozen 0
               have d1 := RES.out.c1
               have f1 := RES.out.frozen 1
               have D := Lib.hid (And.intro (RES.out.put2 (.int .u64 (hi : Int)) (.bool false)) (bel_set2 (g := w.heap.size + 1) HW.out (by omega) (.int .u64 (hi : Int)) (.bool false)))
               go_wp2
               exact bodyPost_ret (results_cell_row rfl _ _ (w.heap.size + 1) 129 _ (0, 0) _ rfl D.out.1 Tryz.underlying129 rfl (by kernel_rfl)) rfl ((by rw [← HHI.out.1]; exact RetNear.fit (by rw [HCD.out.1.1]; rw [HO.out, decide_eq_false (show ¬ un * dd < dn * ud by rw [HQ.out.1]; exact Nat.lt_irrefl _), decide_eq_true HQ.out.1]; have h1 := HCD.out.2.2.2.2.2.1; have h2 := HCD.out.2.2.2.2.2.2; simp; omega) (by rw [HCD.out.1.1]; rw [HO.out, decide_eq_false (show ¬ un * dd < dn * ud by rw [HQ.out.1]; exact Nat.lt_irrefl _), decide_eq_true HQ.out.1]; have h1 := HCD.out.2.2.2.2.2.1; have h2 := HCD.out.2.2.2.2.2.2; simp; omega) (by rw [HCD.out.1.2]; exact decide_eq_false HQ.out.2) (fun _ => rfl) D.out.2))
           · have hz2 : (v7 == 0) = false := by simp [hz]
             have HQ := Lib.hid (And.intro (mt HCD.out.2.1.2 hp) (mt HCD.out.2.2.1.2 hz))
             obtain ⟨x, hx⟩ : ∃ x, decide (dn = 0) = x := ⟨_, rfl⟩
             have e1 := dec_is0 dn
             rw [hx] at e1
             have HX := Lib.hid hx; clear hx
             have d0 := RES.out.c0
             have f0 := RES.out.frozen 0
             have d1 := RES.out.c1
             have f1 := RES.out.frozen 1
             have D := Lib.hid (And.intro (RES.out.put2 (.int .u64 (lo : Int)) (.bool x)) (bel_set2 (g := w.heap.size + 1) HW.out (by omega) (.int .u64 (lo : Int)) (.bool x)))
             go_wp2
             exact bodyPost_ret (results_cell_row rfl _ _ (w.heap.size + 1) 129 _ (0, 0) _ rfl D.out.1 Tryz.underlying129 rfl (by kernel_rfl)) rfl ((by rw [← HHI.out.1]; exact RetNear.fit (by rw [HCD.out.1.1]; rw [decide_eq_false HQ.out.1, decide_eq_false HQ.out.2]; have h1 := HCD.out.2.2.2.2.2.1; have h2 := HCD.out.2.2.2.2.2.2; simp; omega) (by rw [HCD.out.1.1]; rw [decide_eq_false HQ.out.1, decide_eq_false HQ.out.2]; have h1 := HCD.out.2.2.2.2.2.1; have h2 := HCD.out.2.2.2.2.2.2; simp) (by rw [HCD.out.1.2]; exact HX.out) (fun h => absurd h (by rw [HCD.out.1.1, decide_eq_false HQ.out.1, decide_eq_false HQ.out.2]; have h1 := HCD.out.2.2.2.2.2.1; have h2 := HCD.out.2.2.2.2.2.2; simp; omega)) D.out.2))
end
section
open Go.RowKit

def RetBF (b : Nat) (x : Bool) (w : World) (E : Ending) (w' : World) : Prop := E = .returned (.agg #[.int .u64 (b : Int), .bool x]) ∧ Below w.heap.size w w'
theorem refNear_over {HI : Nat} {sz : Int} {p q t : Nat} (hf : Fm sz p q t) (n d : Nat) (w : World) (hn : n < Top) (hd : d < Top) (hd0 : d ≠ 0) {cc : Nat} {ex : Bool} (hC : Code p q n d cc ex) (hH : HI = (t + q + 2) * 2 ^ (p - 1)) (ho : HI ≤ cc) :
 Calls Tryz.prog 115 #[.agg #[.string (dec n), .string (dec d)], .int .i64 sz] w (RetBF HI false w) := by
 refine (refNear_any hf n d w hn hd hd0 hC).mono ?_
 intro E w' h2
 unfold RetNear at h2
 rwa [← hH, if_pos ho, if_pos ho] at h2
theorem refNear_fit {HI : Nat} {sz : Int} {p q t : Nat} (hf : Fm sz p q t) (n d : Nat) (w : World) (hn : n < Top) (hd : d < Top) (hd0 : d ≠ 0) {cc : Nat} {ex : Bool} (hC : Code p q n d cc ex) (hH : HI = (t + q + 2) * 2 ^ (p - 1)) (ho : ¬ HI ≤ cc) :
 Calls Tryz.prog 115 #[.agg #[.string (dec n), .string (dec d)], .int .i64 sz] w (RetBF cc ex w) := by
 refine (refNear_any hf n d w hn hd hd0 hC).mono ?_
 intro E w' h2
 unfold RetNear at h2
 rwa [← hH, if_neg ho, if_neg ho] at h2
end
end
end Go.Proofs.YtmbbdjpnecjleaaGreat
