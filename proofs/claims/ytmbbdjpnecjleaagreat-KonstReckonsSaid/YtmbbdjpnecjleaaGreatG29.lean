/-
 Parts: K15.
-/
import Derived.Test.YtmbbdjpnecjleaaGreatG20
import Derived.Test.YtmbbdjpnecjleaaGreatG26
import Derived.Test.YtmbbdjpnecjleaaGreatG28
namespace Go.Proofs.YtmbbdjpnecjleaaGreat
section
set_option maxRecDepth 100000
set_option maxHeartbeats 1000000
open Go.RowKit

theorem cmp_three {a b : Nat} {v : Int} (h : cmpI (a : Int) (b : Int) = v) : (v = -1 ∧ a < b) ∨ (v = 0 ∧ a = b) ∨ (v = 1 ∧ b < a) := by
 rw [cmpI_nat] at h
 split at h
 · exact .inl ⟨h.symm, by assumption⟩
 · split at h
   · exact .inr (.inr ⟨h.symm, by assumption⟩)
   · exact .inr (.inl ⟨h.symm, by omega⟩)
theorem cmp_v {a b : Nat} {v : Int} (h : cmpI (a : Int) (b : Int) = v) (w : World) : Calls Tryz.prog 20 #[.string (dec a), .string (dec b)] w (RetIB v w) := by rw [← h]; exact refCmp_bb a b w
theorem cmpI_lt0 {a b : Nat} : cmpI (a : Int) (b : Int) < 0 ↔ a < b := by
 rw [cmpI_nat]
 split
 · omega
 · split <;> omega
theorem rHolds_zero (q : Q) (t : Int) (w : World) (h0t : 0 ≤ t) (hN : bitsN t = 0) :
 Calls Tryz.prog 74 #[.agg #[.bool q.s, .string (dec q.n), .string (dec q.d), .bool false], .int .i64 t] w (RetBB true w) := by
 have KB := Lib.hid (fun W => rBits_is t W h0t hN); clear hN h0t
 obtain ⟨wa, hwa⟩ : ∃ wa, wa = w.alloc (.cells #[.bool q.s, .string (dec q.n), .string (dec q.d), .bool false] 37) := ⟨_, rfl⟩
 obtain ⟨hbl, CX⟩ := kal1 hwa
 have HW := Lib.hid hbl; clear hbl
 replace CX := Lib.hid CX
 go_enter Tryz.func74, Tryz.ntmps74
 go_wp2_with fail
 rw [← hwa]
 clear hwa
 obtain ⟨CX0, CX1, CX2, CX3⟩ := CX.out.cs4
 refine (KB.out _).mono ?_
 rintro e w1 ⟨rfl, hbl⟩
 replace CX := hmB CX hbl
 replace HW := hmW HW hbl; clear hbl
 clear CX0 CX1 CX2 CX3
 obtain ⟨CX0, CX1, CX2, CX3⟩ := CX.out.cs4
 go_wp2
 go_ret
 exact ⟨rfl, HW.out⟩
theorem rHolds_up (q : Q) (t : Int) (N : Nat) (w : World) (h0t : 0 ≤ t) (hN : bitsN t = N) (h0 : N ≠ 0) (h64 : N ≤ 64) (hu : unsB t = true) :
 Calls Tryz.prog 74 #[.agg #[.bool false, .string (dec q.n), .string (dec q.d), .bool false], .int .i64 t] w (RetBB (decide (q.n < 2 ^ N)) w) := by
 have KB := Lib.hid (fun W => rBits_is t W h0t hN); clear hN h0t
 have KU := Lib.hid (fun W => rUns_is t W hu); clear hu
 have z1 : ((N : Int) == 0) = false := eq_zero h0
 have z2 : ¬ (N : Int) = 0 := by omega
 have HN := Lib.hid (And.intro h0 h64); clear h64 h0
 obtain ⟨X, hX⟩ : ∃ X, 2 ^ N = X := ⟨_, rfl⟩
 have HX := Lib.hid hX; clear hX
 obtain ⟨wa, hwa⟩ : ∃ wa, wa = w.alloc (.cells #[.bool false, .string (dec q.n), .string (dec q.d), .bool false] 37) := ⟨_, rfl⟩
 obtain ⟨hbl, CX⟩ := kal1 hwa
 have HW := Lib.hid hbl; clear hbl
 replace CX := Lib.hid CX
 go_enter Tryz.func74, Tryz.ntmps74
 go_wp2_with fail
 rw [← hwa]
 clear hwa
 obtain ⟨CX0, CX1, CX2, CX3⟩ := CX.out.cs4
 refine (KB.out _).mono ?_
 rintro e w1 ⟨rfl, hbl⟩
 replace CX := hmB CX hbl
 replace HW := hmW HW hbl; clear hbl
 clear CX0 CX1 CX2 CX3
 obtain ⟨CX0, CX1, CX2, CX3⟩ := CX.out.cs4
 go_wp2_with fail
 refine (KU.out _).mono ?_
 rintro e wu ⟨rfl, hwu⟩
 obtain rfl := hwu.symm
 clear hwu
 go_upto_region 5 with fail
 refine wp_region_typedG 12 (TOf [VIs (.pointer (some ⟨w.heap.size, 0, none⟩)),
  VIs (.bool false),
  VIs (.bool true),
  VIs (.bool true),
  VIs (.pointer (some ⟨w.heap.size, 1, none⟩)),
  VIs (.string (dec q.n)),
  VIs (.int .i64 (N : Int)),
  VIs (.string (dec X)),
  VIs (.int .i64 (cmpI (q.n : Int) (X : Int))),
  VIs (.bool (decide (cmpI (q.n : Int) (X : Int) < 0))),
  VIs (.bool (decide (cmpI (q.n : Int) (X : Int) < 0))),
  VIs (.bool (decide (cmpI (q.n : Int) (X : Int) < 0)))]) (by kernel_rfl) (by kernel_rfl) (by kernel_rfl) (LiftAll.at_ (.cons (VIs.lift _) (.cons (VIs.lift _) (.cons (VIs.lift _) (.cons (VIs.lift _) (.cons (VIs.lift _) (.cons (VIs.lift _) (.cons (VIs.lift _) (.cons (VIs.lift _) (.cons (VIs.lift _) (.cons (VIs.lift _) (.cons (VIs.lift _) (.cons (VIs.lift _) .nil))))))))))))) (stepsG_all (stepsG_cons ?_ (stepsG_cons ?_ (stepsG_cons ?_ (stepsG_cons ?_ (stepsG_cons ?_ (stepsG_cons ?_ (stepsG_cons ?_ (stepsG_cons ?_ (stepsG_cons ?_ (stepsG_cons ?_ (stepsG_cons ?_ (stepsG_cons ?_ stepsG_zero))))))))))))) ?fin
 · refine stepG_plain rfl ?_
   intro a0 w9 K9 hF hB hK hC
   have b2 := hF.base (k := 2) (by kernel_rfl) rfl
   clear hF hB hK
   go_simp
   exact hC _ _ (bR _) fun _ _ => rfl
 · refine stepG_plain rfl ?_
   intro a0 w9 K9 hF hB hK hC
   have e13 := depV hK 0 rfl rfl rfl rfl
   have x9 := (CX.out.below hB CX.out.lt).c0
   clear hF hB hK
   go_simp
   exact hC _ _ (bR _) fun _ _ => rfl
 · refine stepG_plain rfl ?_
   intro a0 w9 K9 hF hB hK hC
   have e14 := depV hK 0 rfl rfl rfl rfl
   have HB9 := Lib.hid hB
   clear hF hB hK
   go_simp
   exact hC _ _ (bR _) fun _ _ => rfl
 · refine stepG_plain rfl ?_
   intro a0 w9 K9 hF hB hK hC
   have e15 := depV hK 0 rfl rfl rfl rfl
   clear hF hB hK
   go_simp
   exact hC _ _ (bR _) fun _ _ => rfl
 · intro a0 w9 K9 hF hB hK hC
   obtain ⟨vg, eg, zg⟩ := dep hK 0 (g := .guard) (j := 3) (k := 16) rfl rfl rfl
   have zg : vg = .bool true := zg
   subst zg
   refine guard_in (j := 3) (k := 16) (want := true) rfl rfl eg rfl ?_
   have b2 := hF.base (k := 2) (by kernel_rfl) rfl
   clear hF hB hK
   go_simp
   exact hC _ _ (bR _) fun _ _ => rfl
 · intro a0 w9 K9 hF hB hK hC
   obtain ⟨vg, eg, zg⟩ := dep hK 1 (g := .guard) (j := 3) (k := 16) rfl rfl rfl
   have zg : vg = .bool true := zg
   subst zg
   refine guard_in (j := 3) (k := 16) (want := true) rfl rfl eg rfl ?_
   have e17 := depV hK 0 rfl rfl rfl rfl
   have x9 := (CX.out.below hB CX.out.lt).c1
   clear hF hB hK
   go_simp
   exact hC _ _ (bR _) fun _ _ => rfl
 · intro a0 w9 K9 hF hB hK hC
   obtain ⟨vg, eg, zg⟩ := dep hK 0 (g := .guard) (j := 3) (k := 16) rfl rfl rfl
   have zg : vg = .bool true := zg
   subst zg
   refine guard_in (j := 3) (k := 16) (want := true) rfl rfl eg rfl ?_
   have b5 := hF.base (k := 5) (by kernel_rfl) rfl
   clear hF hB hK
   go_simp
   exact hC _ _ (bR _) fun _ _ => rfl
 · intro a0 w9 K9 hF hB hK hC
   obtain ⟨vg, eg, zg⟩ := dep hK 2 (g := .guard) (j := 3) (k := 16) rfl rfl rfl
   have zg : vg = .bool true := zg
   subst zg
   refine guard_in (j := 3) (k := 16) (want := true) rfl rfl eg rfl ?_
   have e19 := depV hK 0 rfl rfl rfl rfl
   have HB9 := Lib.hid hB
   clear hF hB hK
   go_simp
   refine (pow3_is N X _ HX.out (by have := HN.out.2; omega)).mono ?_
   rintro e w7 ⟨rfl, hbl⟩
   exact hC _ _ hbl fun _ _ => rfl
 · intro a0 w9 K9 hF hB hK hC
   obtain ⟨vg, eg, zg⟩ := dep hK 3 (g := .guard) (j := 3) (k := 16) rfl rfl rfl
   have zg : vg = .bool true := zg
   subst zg
   refine guard_in (j := 3) (k := 16) (want := true) rfl rfl eg rfl ?_
   have e18 := depV hK 0 rfl rfl rfl rfl
   have e20 := depV hK 1 rfl rfl rfl rfl
   have HB9 := Lib.hid hB
   clear hF hB hK
   go_simp
   refine (refCmp_bb q.n X _).mono ?_
   rintro e w7 ⟨rfl, hbl⟩
   exact hC _ _ hbl fun _ _ => rfl
 · intro a0 w9 K9 hF hB hK hC
   obtain ⟨vg, eg, zg⟩ := dep hK 1 (g := .guard) (j := 3) (k := 16) rfl rfl rfl
   have zg : vg = .bool true := zg
   subst zg
   refine guard_in (j := 3) (k := 16) (want := true) rfl rfl eg rfl ?_
   have e21 := depV hK 0 rfl rfl rfl rfl
   have HB9 := Lib.hid hB
   clear hF hB hK
   go_simp
   exact hC _ _ (bR _) fun _ _ => rfl
 · refine stepG_plain rfl ?_
   intro a0 w9 K9 hF hB hK hC
   have e16 := depV hK 0 rfl rfl rfl rfl
   have e22 := depV hK 1 rfl rfl rfl rfl
   have HB9 := Lib.hid hB
   clear hF hB hK
   go_simp
   exact hC _ _ (bR _) fun _ _ => rfl
 · refine stepG_plain rfl ?_
   intro a0 w9 K9 hF hB hK hC
   have e23 := depV hK 0 rfl rfl rfl rfl
   clear hF hB hK
   go_simp
   exact hC _ _ (bR _) fun _ _ => rfl
 case fin =>
  intro a0 w9 hF hB hK
  have b2 := hF.base (k := 2) (by kernel_rfl) rfl
  have b5 := hF.base (k := 5) (by kernel_rfl) rfl
  have hsz := hF.size
  have hdf := hF.defers
  clear hF
  obtain ⟨v4, e4, z4⟩ := known hK 11 (k := 4) (by decide) rfl
  have z4 : v4 = .bool (decide (cmpI (q.n : Int) (X : Int) < 0)) := z4
  subst z4
  clear hK
  obtain ⟨⟨l0⟩, df⟩ := a0
  have hs0 : l0.length = 40 := hsz
  clear hsz
  replace hdf : df = _ := hdf
  subst hdf
  obtain ⟨u, rfl⟩ := lits_40 hs0
  clear hs0
  generalize hAr : (Array.mk [u 0, u 1, u 2, u 3, u 4, u 5, u 6, u 7, u 8, u 9, u 10, u 11, u 12, u 13, u 14, u 15, u 16, u 17, u 18, u 19, u 20, u 21, u 22, u 23, u 24, u 25, u 26, u 27, u 28, u 29, u 30, u 31, u 32, u 33, u 34, u 35, u 36, u 37, u 38, u 39] : Array Value) = ar
  obtain rfl : ar = #[u 0, u 1, u 2, u 3, u 4, u 5, u 6, u 7, u 8, u 9, u 10, u 11, u 12, u 13, u 14, u 15, u 16, u 17, u 18, u 19, u 20, u 21, u 22, u 23, u 24, u 25, u 26, u 27, u 28, u 29, u 30, u 31, u 32, u 33, u 34, u 35, u 36, u 37, u 38, u 39] := hAr.symm
  have q2 : u 2 = _ := Option.some.inj b2
  clear b2
  have q5 : u 5 = _ := Option.some.inj b5
  clear b5
  have q4 : u 4 = _ := Option.some.inj e4
  clear e4
  rw [q2, q5, q4]
  clear q2 q5 q4
  have hbl := hB; clear hB
  replace CX := hmB CX hbl
  replace HW := hmW HW hbl; clear hbl
  clear CX0 CX1 CX2 CX3
  obtain ⟨CX0, CX1, CX2, CX3⟩ := CX.out.cs4
  refine wpList_nil ?_
  go_wp2
  go_ret
  refine ret_bb ?_ HW.out
  rw [Bool.eq_iff_iff, decide_eq_true_iff, decide_eq_true_iff, HX.out]
  exact cmpI_lt0
theorem rHolds_um (q : Q) (t : Int) (N : Nat) (w : World) (h0t : 0 ≤ t) (hN : bitsN t = N) (h0 : N ≠ 0) (h64 : N ≤ 64) (hu : unsB t = true) :
 Calls Tryz.prog 74 #[.agg #[.bool true, .string (dec q.n), .string (dec q.d), .bool false], .int .i64 t] w (RetBB false w) := by
 have KB := Lib.hid (fun W => rBits_is t W h0t hN); clear hN h0t
 have KU := Lib.hid (fun W => rUns_is t W hu); clear hu
 have z1 : ((N : Int) == 0) = false := eq_zero h0
 have z2 : ¬ (N : Int) = 0 := by omega
 have HN := Lib.hid (And.intro h0 h64); clear h64 h0
 obtain ⟨X, hX⟩ : ∃ X, 2 ^ N = X := ⟨_, rfl⟩
 have HX := Lib.hid hX; clear hX
 obtain ⟨wa, hwa⟩ : ∃ wa, wa = w.alloc (.cells #[.bool true, .string (dec q.n), .string (dec q.d), .bool false] 37) := ⟨_, rfl⟩
 obtain ⟨hbl, CX⟩ := kal1 hwa
 have HW := Lib.hid hbl; clear hbl
 replace CX := Lib.hid CX
 go_enter Tryz.func74, Tryz.ntmps74
 go_wp2_with fail
 rw [← hwa]
 clear hwa
 obtain ⟨CX0, CX1, CX2, CX3⟩ := CX.out.cs4
 refine (KB.out _).mono ?_
 rintro e w1 ⟨rfl, hbl⟩
 replace CX := hmB CX hbl
 replace HW := hmW HW hbl; clear hbl
 clear CX0 CX1 CX2 CX3
 obtain ⟨CX0, CX1, CX2, CX3⟩ := CX.out.cs4
 go_wp2_with fail
 refine (KU.out _).mono ?_
 rintro e wu ⟨rfl, hwu⟩
 obtain rfl := hwu.symm
 clear hwu
 go_upto_region 5 with fail
 refine wp_region_typedG 12 (TOf [VIs (.pointer (some ⟨w.heap.size, 0, none⟩)),
  VIs (.bool true),
  VIs (.bool false),
  VIs (.bool false),
  VIs undef,
  VIs undef,
  VIs undef,
  VIs undef,
  VIs undef,
  VIs undef,
  VIs (.bool false),
  VIs (.bool false)]) (by kernel_rfl) (by kernel_rfl) (by kernel_rfl) (LiftAll.at_ (.cons (VIs.lift _) (.cons (VIs.lift _) (.cons (VIs.lift _) (.cons (VIs.lift _) (.cons (VIs.lift _) (.cons (VIs.lift _) (.cons (VIs.lift _) (.cons (VIs.lift _) (.cons (VIs.lift _) (.cons (VIs.lift _) (.cons (VIs.lift _) (.cons (VIs.lift _) .nil))))))))))))) (stepsG_all (stepsG_cons ?_ (stepsG_cons ?_ (stepsG_cons ?_ (stepsG_cons ?_ (stepsG_cons ?_ (stepsG_cons ?_ (stepsG_cons ?_ (stepsG_cons ?_ (stepsG_cons ?_ (stepsG_cons ?_ (stepsG_cons ?_ (stepsG_cons ?_ stepsG_zero))))))))))))) ?fin
 · refine stepG_plain rfl ?_
   intro a0 w9 K9 hF hB hK hC
   have b2 := hF.base (k := 2) (by kernel_rfl) rfl
   clear hF hB hK
   go_simp
   exact hC _ _ (bR _) fun _ _ => rfl
 · refine stepG_plain rfl ?_
   intro a0 w9 K9 hF hB hK hC
   have e13 := depV hK 0 rfl rfl rfl rfl
   have x9 := (CX.out.below hB CX.out.lt).c0
   clear hF hB hK
   go_simp
   exact hC _ _ (bR _) fun _ _ => rfl
 · refine stepG_plain rfl ?_
   intro a0 w9 K9 hF hB hK hC
   have e14 := depV hK 0 rfl rfl rfl rfl
   have HB9 := Lib.hid hB
   clear hF hB hK
   go_simp
   exact hC _ _ (bR _) fun _ _ => rfl
 · refine stepG_plain rfl ?_
   intro a0 w9 K9 hF hB hK hC
   have e15 := depV hK 0 rfl rfl rfl rfl
   clear hF hB hK
   go_simp
   exact hC _ _ (bR _) fun _ _ => rfl
 · intro a0 w9 K9 hF hB hK hC
   obtain ⟨vg, eg, zg⟩ := dep hK 0 (g := .guard) (j := 3) (k := 16) rfl rfl rfl
   have zg : vg = .bool false := zg
   subst zg
   refine guard_out (j := 3) (k := 16) (want := true) rfl rfl eg rfl ?_
   exact hC undef _ (bel_refl _) fun _ _ => rfl
 · intro a0 w9 K9 hF hB hK hC
   obtain ⟨vg, eg, zg⟩ := dep hK 1 (g := .guard) (j := 3) (k := 16) rfl rfl rfl
   have zg : vg = .bool false := zg
   subst zg
   refine guard_out (j := 3) (k := 16) (want := true) rfl rfl eg rfl ?_
   exact hC undef _ (bel_refl _) fun _ _ => rfl
 · intro a0 w9 K9 hF hB hK hC
   obtain ⟨vg, eg, zg⟩ := dep hK 0 (g := .guard) (j := 3) (k := 16) rfl rfl rfl
   have zg : vg = .bool false := zg
   subst zg
   refine guard_out (j := 3) (k := 16) (want := true) rfl rfl eg rfl ?_
   exact hC undef _ (bel_refl _) fun _ _ => rfl
 · intro a0 w9 K9 hF hB hK hC
   obtain ⟨vg, eg, zg⟩ := dep hK 2 (g := .guard) (j := 3) (k := 16) rfl rfl rfl
   have zg : vg = .bool false := zg
   subst zg
   refine guard_out (j := 3) (k := 16) (want := true) rfl rfl eg rfl ?_
   exact hC undef _ (bel_refl _) fun _ _ => rfl
 · intro a0 w9 K9 hF hB hK hC
   obtain ⟨vg, eg, zg⟩ := dep hK 3 (g := .guard) (j := 3) (k := 16) rfl rfl rfl
   have zg : vg = .bool false := zg
   subst zg
   refine guard_out (j := 3) (k := 16) (want := true) rfl rfl eg rfl ?_
   exact hC undef _ (bel_refl _) fun _ _ => rfl
 · intro a0 w9 K9 hF hB hK hC
   obtain ⟨vg, eg, zg⟩ := dep hK 1 (g := .guard) (j := 3) (k := 16) rfl rfl rfl
   have zg : vg = .bool false := zg
   subst zg
   refine guard_out (j := 3) (k := 16) (want := true) rfl rfl eg rfl ?_
   exact hC undef _ (bel_refl _) fun _ _ => rfl
 · refine stepG_plain rfl ?_
   intro a0 w9 K9 hF hB hK hC
   have e16 := depV hK 0 rfl rfl rfl rfl
   have e22 := depV hK 1 rfl rfl rfl rfl
   have HB9 := Lib.hid hB
   clear hF hB hK
   go_simp
   exact hC _ _ (bR _) fun _ _ => rfl
 · refine stepG_plain rfl ?_
   intro a0 w9 K9 hF hB hK hC
   have e23 := depV hK 0 rfl rfl rfl rfl
   clear hF hB hK
   go_simp
   exact hC _ _ (bR _) fun _ _ => rfl
 case fin =>
  intro a0 w9 hF hB hK
  have b2 := hF.base (k := 2) (by kernel_rfl) rfl
  have b5 := hF.base (k := 5) (by kernel_rfl) rfl
  have hsz := hF.size
  have hdf := hF.defers
  clear hF
  obtain ⟨v4, e4, z4⟩ := known hK 11 (k := 4) (by decide) rfl
  have z4 : v4 = .bool false := z4
  subst z4
  clear hK
  obtain ⟨⟨l0⟩, df⟩ := a0
  have hs0 : l0.length = 40 := hsz
  clear hsz
  replace hdf : df = _ := hdf
  subst hdf
  obtain ⟨u, rfl⟩ := lits_40 hs0
  clear hs0
  generalize hAr : (Array.mk [u 0, u 1, u 2, u 3, u 4, u 5, u 6, u 7, u 8, u 9, u 10, u 11, u 12, u 13, u 14, u 15, u 16, u 17, u 18, u 19, u 20, u 21, u 22, u 23, u 24, u 25, u 26, u 27, u 28, u 29, u 30, u 31, u 32, u 33, u 34, u 35, u 36, u 37, u 38, u 39] : Array Value) = ar
  obtain rfl : ar = #[u 0, u 1, u 2, u 3, u 4, u 5, u 6, u 7, u 8, u 9, u 10, u 11, u 12, u 13, u 14, u 15, u 16, u 17, u 18, u 19, u 20, u 21, u 22, u 23, u 24, u 25, u 26, u 27, u 28, u 29, u 30, u 31, u 32, u 33, u 34, u 35, u 36, u 37, u 38, u 39] := hAr.symm
  have q2 : u 2 = _ := Option.some.inj b2
  clear b2
  have q5 : u 5 = _ := Option.some.inj b5
  clear b5
  have q4 : u 4 = _ := Option.some.inj e4
  clear e4
  rw [q2, q5, q4]
  clear q2 q5 q4
  have hbl := hB; clear hB
  replace CX := hmB CX hbl
  replace HW := hmW HW hbl; clear hbl
  clear CX0 CX1 CX2 CX3
  obtain ⟨CX0, CX1, CX2, CX3⟩ := CX.out.cs4
  refine wpList_nil ?_
  go_wp2
  go_ret
  exact ⟨rfl, HW.out⟩
theorem rHolds_sp (q : Q) (t : Int) (N : Nat) (w : World) (h0t : 0 ≤ t) (hN : bitsN t = N) (h0 : N ≠ 0) (h64 : N ≤ 64) (hu : unsB t = false) :
 Calls Tryz.prog 74 #[.agg #[.bool false, .string (dec q.n), .string (dec q.d), .bool false], .int .i64 t] w (RetBB (decide (q.n < 2 ^ (N - 1))) w) := by
 have KB := Lib.hid (fun W => rBits_is t W h0t hN); clear hN h0t
 have KU := Lib.hid (fun W => rUns_is t W hu); clear hu
 have z1 : ((N : Int) == 0) = false := eq_zero h0
 have z2 : ¬ (N : Int) = 0 := by omega
 obtain ⟨M, hM⟩ : ∃ M, N = M + 1 := ⟨N - 1, by omega⟩
 have HZ3 := Lib.hid (show IntKind.i64.wrap ((N : Int) - 1) = (M : Int) by rw [IntKind.wrap_i64]; omega)
 have HM := Lib.hid (And.intro hM h64); clear hM h64 h0
 obtain ⟨X, hX⟩ : ∃ X, 2 ^ M = X := ⟨_, rfl⟩
 have HX := Lib.hid hX; clear hX
 obtain ⟨v, hv⟩ : ∃ v, cmpI (q.n : Int) (X : Int) = v := ⟨_, rfl⟩
 have HC := Lib.hid hv
 have HV := Lib.hid (cmp_three hv); clear hv
 obtain ⟨wa, hwa⟩ : ∃ wa, wa = w.alloc (.cells #[.bool false, .string (dec q.n), .string (dec q.d), .bool false] 37) := ⟨_, rfl⟩
 obtain ⟨hbl, CX⟩ := kal1 hwa
 have HW := Lib.hid hbl; clear hbl
 replace CX := Lib.hid CX
 go_enter Tryz.func74, Tryz.ntmps74
 go_wp2_with fail
 rw [← hwa]
 clear hwa
 obtain ⟨CX0, CX1, CX2, CX3⟩ := CX.out.cs4
 refine (KB.out _).mono ?_
 rintro e w1 ⟨rfl, hbl⟩
 replace CX := hmB CX hbl
 replace HW := hmW HW hbl; clear hbl
 clear CX0 CX1 CX2 CX3
 obtain ⟨CX0, CX1, CX2, CX3⟩ := CX.out.cs4
 go_wp2_with fail
 refine (KU.out _).mono ?_
 rintro e wu ⟨rfl, hwu⟩
 obtain rfl := hwu.symm
 clear hwu
 go_upto_region 6 with fail
 refine wp_region_typed 7 (TOf [VIs (.pointer (some ⟨w.heap.size, 1, none⟩)),
  VIs (.string (dec q.n)),
  VIs (.int .i64 (N : Int)),
  VIs (.int .i64 (M : Int)),
  VIs (.string (dec X)),
  VIs (.int .i64 v),
  VIs (.int .i64 v)]) (by kernel_rfl) (by kernel_rfl) (by kernel_rfl) (LiftAll.at_ (.cons (VIs.lift _) (.cons (VIs.lift _) (.cons (VIs.lift _) (.cons (VIs.lift _) (.cons (VIs.lift _) (.cons (VIs.lift _) (.cons (VIs.lift _) .nil)))))))) (steps_all (steps_cons ?_ (steps_cons ?_ (steps_cons ?_ (steps_cons ?_ (steps_cons ?_ (steps_cons ?_ (steps_cons ?_ steps_zero)))))))) ?fin
 · intro a0 w9 K9 hF hB hK hC
   have b2 := hF.base (k := 2) (by kernel_rfl) rfl
   clear hF hB hK
   go_simp
   exact hC _ _ (bR _) fun _ _ => rfl
 · intro a0 w9 K9 hF hB hK hC
   have e24 := depV hK 0 rfl rfl rfl rfl
   have x9 := (CX.out.below hB CX.out.lt).c1
   clear hF hB hK
   go_simp
   exact hC _ _ (bR _) fun _ _ => rfl
 · intro a0 w9 K9 hF hB hK hC
   have b5 := hF.base (k := 5) (by kernel_rfl) rfl
   clear hF hB hK
   go_simp
   exact hC _ _ (bR _) fun _ _ => rfl
 · intro a0 w9 K9 hF hB hK hC
   have e26 := depV hK 0 rfl rfl rfl rfl
   have HB9 := Lib.hid hB
   clear hF hB hK
   have hz3 := HZ3.out
   go_simp
   exact hC _ _ (bR _) fun _ _ => rfl
 · intro a0 w9 K9 hF hB hK hC
   have e27 := depV hK 0 rfl rfl rfl rfl
   have HB9 := Lib.hid hB
   clear hF hB hK
   go_simp
   refine (pow3_is M X _ HX.out (by have := HM.out; omega)).mono ?_
   rintro e w7 ⟨rfl, hbl⟩
   exact hC _ _ hbl fun _ _ => rfl
 · intro a0 w9 K9 hF hB hK hC
   have e25 := depV hK 0 rfl rfl rfl rfl
   have e28 := depV hK 1 rfl rfl rfl rfl
   have HB9 := Lib.hid hB
   clear hF hB hK
   go_simp
   refine (cmp_v HC.out _).mono ?_
   rintro e w7 ⟨rfl, hbl⟩
   exact hC _ _ hbl fun _ _ => rfl
 · intro a0 w9 K9 hF hB hK hC
   have e29 := depV hK 0 rfl rfl rfl rfl
   clear hF hB hK
   go_simp
   exact hC _ _ (bR _) fun _ _ => rfl
 case fin =>
  intro a0 w9 hF hB hK
  have b2 := hF.base (k := 2) (by kernel_rfl) rfl
  have b5 := hF.base (k := 5) (by kernel_rfl) rfl
  have hsz := hF.size
  have hdf := hF.defers
  clear hF
  obtain ⟨v6, e6, z6⟩ := known hK 6 (k := 6) (by decide) rfl
  have z6 : v6 = .int .i64 v := z6
  subst z6
  clear hK
  obtain ⟨⟨l0⟩, df⟩ := a0
  have hs0 : l0.length = 40 := hsz
  clear hsz
  replace hdf : df = _ := hdf
  subst hdf
  obtain ⟨u, rfl⟩ := lits_40 hs0
  clear hs0
  generalize hAr : (Array.mk [u 0, u 1, u 2, u 3, u 4, u 5, u 6, u 7, u 8, u 9, u 10, u 11, u 12, u 13, u 14, u 15, u 16, u 17, u 18, u 19, u 20, u 21, u 22, u 23, u 24, u 25, u 26, u 27, u 28, u 29, u 30, u 31, u 32, u 33, u 34, u 35, u 36, u 37, u 38, u 39] : Array Value) = ar
  obtain rfl : ar = #[u 0, u 1, u 2, u 3, u 4, u 5, u 6, u 7, u 8, u 9, u 10, u 11, u 12, u 13, u 14, u 15, u 16, u 17, u 18, u 19, u 20, u 21, u 22, u 23, u 24, u 25, u 26, u 27, u 28, u 29, u 30, u 31, u 32, u 33, u 34, u 35, u 36, u 37, u 38, u 39] := hAr.symm
  have q2 : u 2 = _ := Option.some.inj b2
  clear b2
  have q5 : u 5 = _ := Option.some.inj b5
  clear b5
  have q6 : u 6 = _ := Option.some.inj e6
  clear e6
  rw [q2, q5, q6]
  clear q2 q5 q6
  have hbl := hB; clear hB
  replace CX := hmB CX hbl
  replace HW := hmW HW hbl; clear hbl
  clear CX0 CX1 CX2 CX3
  obtain ⟨CX0, CX1, CX2, CX3⟩ := CX.out.cs4
  refine wpList_nil ?_
  rcases HV.out with ⟨hv, hx⟩ | ⟨hv, hx⟩ | ⟨hv, hx⟩
  all_goals
   clear HV HC
   subst hv
   have HQ := Lib.hid hx; clear hx
   go_wp2
   go_ret
   refine ret_bb ?_ HW.out
   rw [HM.out.1, Nat.add_sub_cancel, HX.out, Bool.eq_iff_iff, decide_eq_true_iff]
   have := HQ.out
   simp
   try omega
theorem rHolds_sm (q : Q) (t : Int) (N : Nat) (w : World) (h0t : 0 ≤ t) (hN : bitsN t = N) (h0 : N ≠ 0) (h64 : N ≤ 64) (hu : unsB t = false) :
 Calls Tryz.prog 74 #[.agg #[.bool true, .string (dec q.n), .string (dec q.d), .bool false], .int .i64 t] w (RetBB (decide (q.n ≤ 2 ^ (N - 1))) w) := by
 have KB := Lib.hid (fun W => rBits_is t W h0t hN); clear hN h0t
 have KU := Lib.hid (fun W => rUns_is t W hu); clear hu
 have z1 : ((N : Int) == 0) = false := eq_zero h0
 have z2 : ¬ (N : Int) = 0 := by omega
 obtain ⟨M, hM⟩ : ∃ M, N = M + 1 := ⟨N - 1, by omega⟩
 have HZ3 := Lib.hid (show IntKind.i64.wrap ((N : Int) - 1) = (M : Int) by rw [IntKind.wrap_i64]; omega)
 have HM := Lib.hid (And.intro hM h64); clear hM h64 h0
 obtain ⟨X, hX⟩ : ∃ X, 2 ^ M = X := ⟨_, rfl⟩
 have HX := Lib.hid hX; clear hX
 obtain ⟨v, hv⟩ : ∃ v, cmpI (q.n : Int) (X : Int) = v := ⟨_, rfl⟩
 have HC := Lib.hid hv
 have HV := Lib.hid (cmp_three hv); clear hv
 obtain ⟨wa, hwa⟩ : ∃ wa, wa = w.alloc (.cells #[.bool true, .string (dec q.n), .string (dec q.d), .bool false] 37) := ⟨_, rfl⟩
 obtain ⟨hbl, CX⟩ := kal1 hwa
 have HW := Lib.hid hbl; clear hbl
 replace CX := Lib.hid CX
 go_enter Tryz.func74, Tryz.ntmps74
 go_wp2_with fail
 rw [← hwa]
 clear hwa
 obtain ⟨CX0, CX1, CX2, CX3⟩ := CX.out.cs4
 refine (KB.out _).mono ?_
 rintro e w1 ⟨rfl, hbl⟩
 replace CX := hmB CX hbl
 replace HW := hmW HW hbl; clear hbl
 clear CX0 CX1 CX2 CX3
 obtain ⟨CX0, CX1, CX2, CX3⟩ := CX.out.cs4
 go_wp2_with fail
 refine (KU.out _).mono ?_
 rintro e wu ⟨rfl, hwu⟩
 obtain rfl := hwu.symm
 clear hwu
 go_upto_region 6 with fail
 refine wp_region_typed 7 (TOf [VIs (.pointer (some ⟨w.heap.size, 1, none⟩)),
  VIs (.string (dec q.n)),
  VIs (.int .i64 (N : Int)),
  VIs (.int .i64 (M : Int)),
  VIs (.string (dec X)),
  VIs (.int .i64 v),
  VIs (.int .i64 v)]) (by kernel_rfl) (by kernel_rfl) (by kernel_rfl) (LiftAll.at_ (.cons (VIs.lift _) (.cons (VIs.lift _) (.cons (VIs.lift _) (.cons (VIs.lift _) (.cons (VIs.lift _) (.cons (VIs.lift _) (.cons (VIs.lift _) .nil)))))))) (steps_all (steps_cons ?_ (steps_cons ?_ (steps_cons ?_ (steps_cons ?_ (steps_cons ?_ (steps_cons ?_ (steps_cons ?_ steps_zero)))))))) ?fin
 · intro a0 w9 K9 hF hB hK hC
   have b2 := hF.base (k := 2) (by kernel_rfl) rfl
   clear hF hB hK
   go_simp
   exact hC _ _ (bR _) fun _ _ => rfl
 · intro a0 w9 K9 hF hB hK hC
   have e24 := depV hK 0 rfl rfl rfl rfl
   have x9 := (CX.out.below hB CX.out.lt).c1
   clear hF hB hK
   go_simp
   exact hC _ _ (bR _) fun _ _ => rfl
 · intro a0 w9 K9 hF hB hK hC
   have b5 := hF.base (k := 5) (by kernel_rfl) rfl
   clear hF hB hK
   go_simp
   exact hC _ _ (bR _) fun _ _ => rfl
 · intro a0 w9 K9 hF hB hK hC
   have e26 := depV hK 0 rfl rfl rfl rfl
   have HB9 := Lib.hid hB
   clear hF hB hK
   have hz3 := HZ3.out
   go_simp
   exact hC _ _ (bR _) fun _ _ => rfl
 · intro a0 w9 K9 hF hB hK hC
   have e27 := depV hK 0 rfl rfl rfl rfl
   have HB9 := Lib.hid hB
   clear hF hB hK
   go_simp
   refine (pow3_is M X _ HX.out (by have := HM.out; omega)).mono ?_
   rintro e w7 ⟨rfl, hbl⟩
   exact hC _ _ hbl fun _ _ => rfl
 · intro a0 w9 K9 hF hB hK hC
   have e25 := depV hK 0 rfl rfl rfl rfl
   have e28 := depV hK 1 rfl rfl rfl rfl
   have HB9 := Lib.hid hB
   clear hF hB hK
   go_simp
   refine (cmp_v HC.out _).mono ?_
   rintro e w7 ⟨rfl, hbl⟩
   exact hC _ _ hbl fun _ _ => rfl
 · intro a0 w9 K9 hF hB hK hC
   have e29 := depV hK 0 rfl rfl rfl rfl
   clear hF hB hK
   go_simp
   exact hC _ _ (bR _) fun _ _ => rfl
 case fin =>
  intro a0 w9 hF hB hK
  have b2 := hF.base (k := 2) (by kernel_rfl) rfl
  have b5 := hF.base (k := 5) (by kernel_rfl) rfl
  have hsz := hF.size
  have hdf := hF.defers
  clear hF
  obtain ⟨v6, e6, z6⟩ := known hK 6 (k := 6) (by decide) rfl
  have z6 : v6 = .int .i64 v := z6
  subst z6
  clear hK
  obtain ⟨⟨l0⟩, df⟩ := a0
  have hs0 : l0.length = 40 := hsz
  clear hsz
  replace hdf : df = _ := hdf
  subst hdf
  obtain ⟨u, rfl⟩ := lits_40 hs0
  clear hs0
  generalize hAr : (Array.mk [u 0, u 1, u 2, u 3, u 4, u 5, u 6, u 7, u 8, u 9, u 10, u 11, u 12, u 13, u 14, u 15, u 16, u 17, u 18, u 19, u 20, u 21, u 22, u 23, u 24, u 25, u 26, u 27, u 28, u 29, u 30, u 31, u 32, u 33, u 34, u 35, u 36, u 37, u 38, u 39] : Array Value) = ar
  obtain rfl : ar = #[u 0, u 1, u 2, u 3, u 4, u 5, u 6, u 7, u 8, u 9, u 10, u 11, u 12, u 13, u 14, u 15, u 16, u 17, u 18, u 19, u 20, u 21, u 22, u 23, u 24, u 25, u 26, u 27, u 28, u 29, u 30, u 31, u 32, u 33, u 34, u 35, u 36, u 37, u 38, u 39] := hAr.symm
  have q2 : u 2 = _ := Option.some.inj b2
  clear b2
  have q5 : u 5 = _ := Option.some.inj b5
  clear b5
  have q6 : u 6 = _ := Option.some.inj e6
  clear e6
  rw [q2, q5, q6]
  clear q2 q5 q6
  have hbl := hB; clear hB
  replace CX := hmB CX hbl
  replace HW := hmW HW hbl; clear hbl
  clear CX0 CX1 CX2 CX3
  obtain ⟨CX0, CX1, CX2, CX3⟩ := CX.out.cs4
  refine wpList_nil ?_
  rcases HV.out with ⟨hv, hx⟩ | ⟨hv, hx⟩ | ⟨hv, hx⟩
  all_goals
   clear HV HC
   subst hv
   have HQ := Lib.hid hx; clear hx
   go_wp2
   go_ret
   refine ret_bb ?_ HW.out
   rw [HM.out.1, Nat.add_sub_cancel, HX.out, Bool.eq_iff_iff, decide_eq_true_iff]
   have := HQ.out
   simp
   try omega
theorem rHolds_is {v : Bool} (s : Bool) (q : Q) (t : Int) (w : World) (h0t : 0 ≤ t) (hv : holdsB s q.n t = v) :
 Calls Tryz.prog 74 #[.agg #[.bool s, .string (dec q.n), .string (dec q.d), .bool false], .int .i64 t] w (RetBB v w) := by
 have h64 := bitsN_le t
 subst hv
 unfold holdsB
 by_cases h0 : bitsN t = 0
 · rw [if_pos h0]
   exact rHolds_zero ⟨s, q.n, q.d⟩ t w h0t h0
 · rw [if_neg h0]
   cases hu : unsB t
   · cases s
     · exact rHolds_sp q t _ w h0t rfl h0 h64 hu
     · exact rHolds_sm q t _ w h0t rfl h0 h64 hu
   · cases s
     · exact (rHolds_up q t _ w h0t rfl h0 h64 hu).mono fun _ _ h => by rwa [Bool.not_false, Bool.true_and]
     · exact rHolds_um q t _ w h0t rfl h0 h64 hu
end
end Go.Proofs.YtmbbdjpnecjleaaGreat
