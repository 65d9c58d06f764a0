/-
 Parts: QAdd.
-/
import Derived.Test.YtmbbdjpnecjleaaGreatH11
namespace Go.Proofs.YtmbbdjpnecjleaaGreat
section
set_option maxRecDepth 100000
set_option maxHeartbeats 1000000
section
open Go.RowKit

theorem add_walk {q : Q} {e : Int} (l : Bool) (A B A' B' : Option Addr) (c d c' d' : Nat) (a b : Q) (w : World) (h1 : RdL w A (limbs a.n)) (h2 : RdL w B (limbs a.d)) (h3 : RdL w A' (limbs b.n)) (h4 : RdL w B' (limbs b.d)) (k1 : (limbs a.n).length ≤ c) (k2 : (limbs a.d).length ≤ d) (k3 : (limbs b.n).length ≤ c') (k4 : (limbs b.d).length ≤ d') (t1 : a.n < Top) (t2 : a.d < Top) (t3 : b.n < Top) (t4 : b.d < Top) (ra : QR a) (rb : QR b) (hov : ¬ ((a.n * b.d) < Top ∧ (b.n * a.d) < Top ∧ (a.d * b.d) < Top ∧ (a.n * b.d) + (b.n * a.d) < Top) → q = noQ ∧ e = 2) (hok : (a.n * b.d) < Top → (b.n * a.d) < Top → (a.d * b.d) < Top → (a.n * b.d) + (b.n * a.d) < Top → sumQ a.s (b.s != l) (a.n * b.d) (b.n * a.d) (a.d * b.d) = q ∧ e = 0) :
 Calls Tryz.prog 96 #[.agg #[.bool a.s, .slice A (limbs a.n).length c, .slice B (limbs a.d).length d], .agg #[.bool b.s, .slice A' (limbs b.n).length c', .slice B' (limbs b.d).length d'], .bool l] w (RetQE q e w) := by
 have R1 := Lib.hid h1; clear h1
 have R2 := Lib.hid h2; clear h2
 have R3 := Lib.hid h3; clear h3
 have R4 := Lib.hid h4; clear h4
 have K := Lib.hid (And.intro k1 (And.intro k2 (And.intro k3 k4))); clear k1 k2 k3 k4
 have T := Lib.hid (And.intro t1 (And.intro t2 (And.intro t3 t4))); clear t1 t2 t3 t4
 have HA := Lib.hid ra; clear ra
 have HB := Lib.hid rb; clear rb
 have HOV := Lib.hid hov; clear hov
 have HOK := Lib.hid hok; clear hok
 obtain ⟨wa, hwa⟩ : ∃ wa, wa = (((w.alloc (.cells #[.bool a.s, .slice A (limbs a.n).length c, .slice B (limbs a.d).length d] 25)).alloc (.cells #[.bool b.s, .slice A' (limbs b.n).length c', .slice B' (limbs b.d).length d'] 25)).alloc (.cells #[.bool false, .slice none 0 0, .slice none 0 0] 25)).alloc (.cells #[.int .i64 0] 29) := ⟨_, rfl⟩
 obtain ⟨hbl, CX, CY, RES, ERR⟩ := sal4 hwa
 replace R1 := hmR R1 hbl
 replace R2 := hmR R2 hbl
 replace R3 := hmR R3 hbl
 replace R4 := hmR R4 hbl
 have HW := Lib.hid hbl; clear hbl
 go_enter_defers Tryz.func96, Tryz.ntmps96
 go_wp2_with fail
 rw [← hwa]
 clear hwa
 have CX0 := CX.out.c0
 have CX1 := CX.out.c1
 have CX2 := CX.out.c2
 have CY0 := CY.out.c0
 have CY1 := CY.out.c1
 have CY2 := CY.out.c2
 refine (ratRight_q a A B c d _ R1.out R2.out K.out.1 K.out.2.1 T.out.1 T.out.2.1 HA.out).mono ?_
 rintro e w1 ⟨rfl, hbl⟩
 replace R1 := hmR R1 hbl
 replace R2 := hmR R2 hbl
 replace R3 := hmR R3 hbl
 replace R4 := hmR R4 hbl
 replace CX := hmB CX hbl
 replace CY := hmB CY hbl
 replace RES := hmB RES hbl
 replace ERR := hmB ERR hbl
 replace HW := hmW HW hbl; clear hbl
 clear CX0 CX1 CX2 CY0 CY1 CY2
 have CX0 := CX.out.c0
 have CX1 := CX.out.c1
 have CX2 := CX.out.c2
 have CY0 := CY.out.c0
 have CY1 := CY.out.c1
 have CY2 := CY.out.c2
 go_wp2_with fail
 refine (ratRight_q b A' B' c' d' _ R3.out R4.out K.out.2.2.1 K.out.2.2.2 T.out.2.2.1 T.out.2.2.2 HB.out).mono ?_
 rintro e w2 ⟨rfl, hbl⟩
 replace R1 := hmR R1 hbl
 replace R2 := hmR R2 hbl
 replace R3 := hmR R3 hbl
 replace R4 := hmR R4 hbl
 replace CX := hmB CX hbl
 replace CY := hmB CY hbl
 replace RES := hmB RES hbl
 replace ERR := hmB ERR hbl
 replace HW := hmW HW hbl; clear hbl
 clear CX0 CX1 CX2 CY0 CY1 CY2
 have CX0 := CX.out.c0
 have CX1 := CX.out.c1
 have CX2 := CX.out.c2
 have CY0 := CY.out.c0
 have CY1 := CY.out.c1
 have CY2 := CY.out.c2
 go_wp2_with fail
 refine wp_region_typed 27 (TOf [VIs (.pointer (some ⟨w.heap.size, 1, none⟩)),
  VIs (.slice A (limbs a.n).length c),
  VIs (.pointer (some ⟨w.heap.size + 1, 2, none⟩)),
  VIs (.slice B' (limbs b.d).length d'),
  VMul (a.n * b.d),
  VFit (a.n * b.d),
  VIs (.int .i64 (fitC (a.n * b.d))),
  VOk (a.n * b.d),
  VIs (.pointer (some ⟨w.heap.size + 1, 1, none⟩)),
  VIs (.slice A' (limbs b.n).length c'),
  VIs (.pointer (some ⟨w.heap.size, 2, none⟩)),
  VIs (.slice B (limbs a.d).length d),
  VMul (b.n * a.d),
  VFit (b.n * a.d),
  VIs (.int .i64 (fitC (b.n * a.d))),
  VOk (b.n * a.d),
  VIs (.pointer (some ⟨w.heap.size, 2, none⟩)),
  VIs (.slice B (limbs a.d).length d),
  VIs (.pointer (some ⟨w.heap.size + 1, 2, none⟩)),
  VIs (.slice B' (limbs b.d).length d'),
  VMul (a.d * b.d),
  VFit (a.d * b.d),
  VIs (.int .i64 (fitC (a.d * b.d))),
  VOk (a.d * b.d),
  VOk (a.n * b.d),
  VOk (b.n * a.d),
  VOk (a.d * b.d)]) (by kernel_rfl) (by kernel_rfl) (by kernel_rfl) (LiftAll.at_ (.cons (VIs.lift _) (.cons (VIs.lift _) (.cons (VIs.lift _) (.cons (VIs.lift _) (.cons (VMul.lift _) (.cons (VFit.lift _) (.cons (VIs.lift _) (.cons (VOk.lift _) (.cons (VIs.lift _) (.cons (VIs.lift _) (.cons (VIs.lift _) (.cons (VIs.lift _) (.cons (VMul.lift _) (.cons (VFit.lift _) (.cons (VIs.lift _) (.cons (VOk.lift _) (.cons (VIs.lift _) (.cons (VIs.lift _) (.cons (VIs.lift _) (.cons (VIs.lift _) (.cons (VMul.lift _) (.cons (VFit.lift _) (.cons (VIs.lift _) (.cons (VOk.lift _) (.cons (VOk.lift _) (.cons (VOk.lift _) (.cons (VOk.lift _) .nil)))))))))))))))))))))))))))) (steps_all (steps_cons ?_ (steps_cons ?_ (steps_cons ?_ (steps_cons ?_ (steps_cons ?_ (steps_cons ?_ (steps_cons ?_ (steps_cons ?_ (steps_cons ?_ (steps_cons ?_ (steps_cons ?_ (steps_cons ?_ (steps_cons ?_ (steps_cons ?_ (steps_cons ?_ (steps_cons ?_ (steps_cons ?_ (steps_cons ?_ (steps_cons ?_ (steps_cons ?_ (steps_cons ?_ (steps_cons ?_ (steps_cons ?_ (steps_cons ?_ (steps_cons ?_ (steps_cons ?_ (steps_cons ?_ steps_zero)))))))))))))))))))))))))))) ?fin
 · intro a0 w9 K9 hF _ _ hC
   have b9 := hF.base (k := 3) (v := .pointer (some ⟨w.heap.size, 0, none⟩)) (by kernel_rfl) rfl
   clear hF
   go_simp
   exact hC _ _ (bR _) fun _ _ => rfl
 · intro a0 w9 K9 _ hB hK hC
   obtain ⟨v9, e9, z9⟩ := dep hK 0 (j := 0) (k := 20) rfl rfl rfl
   have z9 : v9 = .pointer (some ⟨w.heap.size, 1, none⟩) := z9
   subst z9
   have x9 := (CX.out.below hB CX.out.lt).c1
   clear hK hB
   go_simp
   exact hC _ _ (bR _) fun _ _ => rfl
 · intro a0 w9 K9 hF _ _ hC
   have b9 := hF.base (k := 4) (v := .pointer (some ⟨w.heap.size + 1, 0, none⟩)) (by kernel_rfl) rfl
   clear hF
   go_simp
   exact hC _ _ (bR _) fun _ _ => rfl
 · intro a0 w9 K9 _ hB hK hC
   obtain ⟨v9, e9, z9⟩ := dep hK 0 (j := 2) (k := 22) rfl rfl rfl
   have z9 : v9 = .pointer (some ⟨w.heap.size + 1, 2, none⟩) := z9
   subst z9
   have x9 := (CY.out.below hB CY.out.lt).c2
   clear hK hB
   go_simp
   exact hC _ _ (bR _) fun _ _ => rfl
 · intro a0 w9 K9 _ hB hK hC
   obtain ⟨v8, e8, z8⟩ := dep hK 0 (j := 1) (k := 21) rfl rfl rfl
   obtain ⟨v9, e9, z9⟩ := dep hK 1 (j := 3) (k := 23) rfl rfl rfl
   have z8 : v8 = .slice A (limbs a.n).length c := z8
   have z9 : v9 = .slice B' (limbs b.d).length d' := z9
   subst z8
   subst z9
   clear hK
   have HB9 := Lib.hid hB; clear hB
   go_simp
   refine (mul_num A B' c d' a.n b.d _ (R1.out.below HB9.out) (R4.out.below HB9.out) T.out.1 T.out.2.2.2).mono ?_
   rintro e w7 ⟨u, rfl, hu, hbl⟩
   exact hC _ _ hbl fun _ _ => ⟨u, rfl, hu⟩
 · intro a0 w9 K9 _ _ hK hC
   obtain ⟨v9, e9, z9⟩ := dep hK 0 (j := 4) (k := 24) rfl rfl rfl
   obtain ⟨u9, rfl, r9⟩ : ∃ u, v9 = .tuple #[u, .int .i64 (fitC (a.n * b.d))] ∧ RdN w9 u (fitN (a.n * b.d)) := z9
   clear hK
   have R9 := Lib.hid r9; clear r9
   go_simp
   exact hC _ _ (bel_refl _) fun _ _ => R9.out
 · intro a0 w9 K9 _ _ hK hC
   obtain ⟨v9, e9, z9⟩ := dep hK 0 (j := 4) (k := 24) rfl rfl rfl
   obtain ⟨u9, rfl, r9⟩ : ∃ u, v9 = .tuple #[u, .int .i64 (fitC (a.n * b.d))] ∧ RdN w9 u (fitN (a.n * b.d)) := z9
   clear hK
   have R9 := Lib.hid r9; clear r9
   go_simp
   exact hC _ _ (bR _) fun _ _ => rfl
 · intro a0 w9 K9 hF hB hK hC
   obtain ⟨v8, e8, z8⟩ := dep hK 0 (j := 5) (k := 25) rfl rfl rfl
   obtain ⟨v9, e9, z9⟩ := dep hK 1 (j := 6) (k := 26) rfl rfl rfl
   have z9 : v9 = .int .i64 (fitC (a.n * b.d)) := z9
   have z8 : RdN w9 v8 (fitN (a.n * b.d)) := z8
   subst z9
   clear hK
   have b6 := getD_of (hF.base (k := 6) (v := .pointer (some ⟨w.heap.size + 2, 0, none⟩)) (by kernel_rfl) rfl)
   have b7 := getD_of (hF.base (k := 7) (v := .pointer (some ⟨w.heap.size + 3, 0, none⟩)) (by kernel_rfl) rfl)
   have F9 := Lib.hid (And.intro hF.defers (And.intro b6 b7)); clear hF b6 b7
   have Z8 := Lib.hid z8; clear z8
   have HB9 := Lib.hid hB; clear hB
   by_cases hfit : (a.n * b.d) < Top
   · have Z9 := Lib.hid (And.intro hfit (show RdN w9 v8 (a.n * b.d) by have := Z8.out; rwa [(fit_small hfit).1] at this))
     rw [(fit_small hfit).2] at e9
     clear hfit
     go_simp
     refine (must_bb _ _).mono ?_
     rintro e w7 ⟨rfl, hbl⟩
     exact hC _ _ hbl fun _ _ => ⟨Z9.out.1, Z9.out.2.below hbl⟩
   · obtain ⟨rfl, rfl⟩ := HOV.out fun h => hfit h.1
     rw [(fit_over hfit).2] at e9
     clear hfit
     go_simp
     refine (must_pp _ 2 _ (by decide)).mono ?_
     rintro e w7 ⟨rfl, hbl⟩
     have hb9 := bel_trans HB9.out hbl
     show Leaves _ _ a0.tmps _ a0.defers _ _
     rw [F9.out.1]
     exact leave_caught ⟨rfl, F9.out.2.1, F9.out.2.2, bel_trans HW.out hb9, by omega, by omega, by omega, RES.out.below hb9 RES.out.lt, ERR.out.below hb9 ERR.out.lt⟩
 · intro a0 w9 K9 hF _ _ hC
   have b9 := hF.base (k := 4) (v := .pointer (some ⟨w.heap.size + 1, 0, none⟩)) (by kernel_rfl) rfl
   clear hF
   go_simp
   exact hC _ _ (bR _) fun _ _ => rfl
 · intro a0 w9 K9 _ hB hK hC
   obtain ⟨v9, e9, z9⟩ := dep hK 0 (j := 8) (k := 28) rfl rfl rfl
   have z9 : v9 = .pointer (some ⟨w.heap.size + 1, 1, none⟩) := z9
   subst z9
   have x9 := (CY.out.below hB CY.out.lt).c1
   clear hK hB
   go_simp
   exact hC _ _ (bR _) fun _ _ => rfl
 · intro a0 w9 K9 hF _ _ hC
   have b9 := hF.base (k := 3) (v := .pointer (some ⟨w.heap.size, 0, none⟩)) (by kernel_rfl) rfl
   clear hF
   go_simp
   exact hC _ _ (bR _) fun _ _ => rfl
 · intro a0 w9 K9 _ hB hK hC
   obtain ⟨v9, e9, z9⟩ := dep hK 0 (j := 10) (k := 30) rfl rfl rfl
   have z9 : v9 = .pointer (some ⟨w.heap.size, 2, none⟩) := z9
   subst z9
   have x9 := (CX.out.below hB CX.out.lt).c2
   clear hK hB
   go_simp
   exact hC _ _ (bR _) fun _ _ => rfl
 · intro a0 w9 K9 _ hB hK hC
   obtain ⟨v8, e8, z8⟩ := dep hK 0 (j := 9) (k := 29) rfl rfl rfl
   obtain ⟨v9, e9, z9⟩ := dep hK 1 (j := 11) (k := 31) rfl rfl rfl
   have z8 : v8 = .slice A' (limbs b.n).length c' := z8
   have z9 : v9 = .slice B (limbs a.d).length d := z9
   subst z8
   subst z9
   clear hK
   have HB9 := Lib.hid hB; clear hB
   go_simp
   refine (mul_num A' B c' d b.n a.d _ (R3.out.below HB9.out) (R2.out.below HB9.out) T.out.2.2.1 T.out.2.1).mono ?_
   rintro e w7 ⟨u, rfl, hu, hbl⟩
   exact hC _ _ hbl fun _ _ => ⟨u, rfl, hu⟩
 · intro a0 w9 K9 _ _ hK hC
   obtain ⟨v9, e9, z9⟩ := dep hK 0 (j := 12) (k := 32) rfl rfl rfl
   obtain ⟨u9, rfl, r9⟩ : ∃ u, v9 = .tuple #[u, .int .i64 (fitC (b.n * a.d))] ∧ RdN w9 u (fitN (b.n * a.d)) := z9
   clear hK
   have R9 := Lib.hid r9; clear r9
   go_simp
   exact hC _ _ (bel_refl _) fun _ _ => R9.out
 · intro a0 w9 K9 _ _ hK hC
   obtain ⟨v9, e9, z9⟩ := dep hK 0 (j := 12) (k := 32) rfl rfl rfl
   obtain ⟨u9, rfl, r9⟩ : ∃ u, v9 = .tuple #[u, .int .i64 (fitC (b.n * a.d))] ∧ RdN w9 u (fitN (b.n * a.d)) := z9
   clear hK
   have R9 := Lib.hid r9; clear r9
   go_simp
   exact hC _ _ (bR _) fun _ _ => rfl
 · intro a0 w9 K9 hF hB hK hC
   obtain ⟨v8, e8, z8⟩ := dep hK 0 (j := 13) (k := 33) rfl rfl rfl
   obtain ⟨v9, e9, z9⟩ := dep hK 1 (j := 14) (k := 34) rfl rfl rfl
   have z9 : v9 = .int .i64 (fitC (b.n * a.d)) := z9
   have z8 : RdN w9 v8 (fitN (b.n * a.d)) := z8
   subst z9
   clear hK
   have b6 := getD_of (hF.base (k := 6) (v := .pointer (some ⟨w.heap.size + 2, 0, none⟩)) (by kernel_rfl) rfl)
   have b7 := getD_of (hF.base (k := 7) (v := .pointer (some ⟨w.heap.size + 3, 0, none⟩)) (by kernel_rfl) rfl)
   have F9 := Lib.hid (And.intro hF.defers (And.intro b6 b7)); clear hF b6 b7
   have Z8 := Lib.hid z8; clear z8
   have HB9 := Lib.hid hB; clear hB
   by_cases hfit : (b.n * a.d) < Top
   · have Z9 := Lib.hid (And.intro hfit (show RdN w9 v8 (b.n * a.d) by have := Z8.out; rwa [(fit_small hfit).1] at this))
     rw [(fit_small hfit).2] at e9
     clear hfit
     go_simp
     refine (must_bb _ _).mono ?_
     rintro e w7 ⟨rfl, hbl⟩
     exact hC _ _ hbl fun _ _ => ⟨Z9.out.1, Z9.out.2.below hbl⟩
   · obtain ⟨rfl, rfl⟩ := HOV.out fun h => hfit h.2.1
     rw [(fit_over hfit).2] at e9
     clear hfit
     go_simp
     refine (must_pp _ 2 _ (by decide)).mono ?_
     rintro e w7 ⟨rfl, hbl⟩
     have hb9 := bel_trans HB9.out hbl
     show Leaves _ _ a0.tmps _ a0.defers _ _
     rw [F9.out.1]
     exact leave_caught ⟨rfl, F9.out.2.1, F9.out.2.2, bel_trans HW.out hb9, by omega, by omega, by omega, RES.out.below hb9 RES.out.lt, ERR.out.below hb9 ERR.out.lt⟩
 · intro a0 w9 K9 hF _ _ hC
   have b9 := hF.base (k := 3) (v := .pointer (some ⟨w.heap.size, 0, none⟩)) (by kernel_rfl) rfl
   clear hF
   go_simp
   exact hC _ _ (bR _) fun _ _ => rfl
 · intro a0 w9 K9 _ hB hK hC
   obtain ⟨v9, e9, z9⟩ := dep hK 0 (j := 16) (k := 36) rfl rfl rfl
   have z9 : v9 = .pointer (some ⟨w.heap.size, 2, none⟩) := z9
   subst z9
   have x9 := (CX.out.below hB CX.out.lt).c2
   clear hK hB
   go_simp
   exact hC _ _ (bR _) fun _ _ => rfl
 · intro a0 w9 K9 hF _ _ hC
   have b9 := hF.base (k := 4) (v := .pointer (some ⟨w.heap.size + 1, 0, none⟩)) (by kernel_rfl) rfl
   clear hF
   go_simp
   exact hC _ _ (bR _) fun _ _ => rfl
 · intro a0 w9 K9 _ hB hK hC
   obtain ⟨v9, e9, z9⟩ := dep hK 0 (j := 18) (k := 38) rfl rfl rfl
   have z9 : v9 = .pointer (some ⟨w.heap.size + 1, 2, none⟩) := z9
   subst z9
   have x9 := (CY.out.below hB CY.out.lt).c2
   clear hK hB
   go_simp
   exact hC _ _ (bR _) fun _ _ => rfl
 · intro a0 w9 K9 _ hB hK hC
   obtain ⟨v8, e8, z8⟩ := dep hK 0 (j := 17) (k := 37) rfl rfl rfl
   obtain ⟨v9, e9, z9⟩ := dep hK 1 (j := 19) (k := 39) rfl rfl rfl
   have z8 : v8 = .slice B (limbs a.d).length d := z8
   have z9 : v9 = .slice B' (limbs b.d).length d' := z9
   subst z8
   subst z9
   clear hK
   have HB9 := Lib.hid hB; clear hB
   go_simp
   refine (mul_num B B' d d' a.d b.d _ (R2.out.below HB9.out) (R4.out.below HB9.out) T.out.2.1 T.out.2.2.2).mono ?_
   rintro e w7 ⟨u, rfl, hu, hbl⟩
   exact hC _ _ hbl fun _ _ => ⟨u, rfl, hu⟩
 · intro a0 w9 K9 _ _ hK hC
   obtain ⟨v9, e9, z9⟩ := dep hK 0 (j := 20) (k := 40) rfl rfl rfl
   obtain ⟨u9, rfl, r9⟩ : ∃ u, v9 = .tuple #[u, .int .i64 (fitC (a.d * b.d))] ∧ RdN w9 u (fitN (a.d * b.d)) := z9
   clear hK
   have R9 := Lib.hid r9; clear r9
   go_simp
   exact hC _ _ (bel_refl _) fun _ _ => R9.out
 · intro a0 w9 K9 _ _ hK hC
   obtain ⟨v9, e9, z9⟩ := dep hK 0 (j := 20) (k := 40) rfl rfl rfl
   obtain ⟨u9, rfl, r9⟩ : ∃ u, v9 = .tuple #[u, .int .i64 (fitC (a.d * b.d))] ∧ RdN w9 u (fitN (a.d * b.d)) := z9
   clear hK
   have R9 := Lib.hid r9; clear r9
   go_simp
   exact hC _ _ (bR _) fun _ _ => rfl
 · intro a0 w9 K9 hF hB hK hC
   obtain ⟨v8, e8, z8⟩ := dep hK 0 (j := 21) (k := 41) rfl rfl rfl
   obtain ⟨v9, e9, z9⟩ := dep hK 1 (j := 22) (k := 42) rfl rfl rfl
   have z9 : v9 = .int .i64 (fitC (a.d * b.d)) := z9
   have z8 : RdN w9 v8 (fitN (a.d * b.d)) := z8
   subst z9
   clear hK
   have b6 := getD_of (hF.base (k := 6) (v := .pointer (some ⟨w.heap.size + 2, 0, none⟩)) (by kernel_rfl) rfl)
   have b7 := getD_of (hF.base (k := 7) (v := .pointer (some ⟨w.heap.size + 3, 0, none⟩)) (by kernel_rfl) rfl)
   have F9 := Lib.hid (And.intro hF.defers (And.intro b6 b7)); clear hF b6 b7
   have Z8 := Lib.hid z8; clear z8
   have HB9 := Lib.hid hB; clear hB
   by_cases hfit : (a.d * b.d) < Top
   · have Z9 := Lib.hid (And.intro hfit (show RdN w9 v8 (a.d * b.d) by have := Z8.out; rwa [(fit_small hfit).1] at this))
     rw [(fit_small hfit).2] at e9
     clear hfit
     go_simp
     refine (must_bb _ _).mono ?_
     rintro e w7 ⟨rfl, hbl⟩
     exact hC _ _ hbl fun _ _ => ⟨Z9.out.1, Z9.out.2.below hbl⟩
   · obtain ⟨rfl, rfl⟩ := HOV.out fun h => hfit h.2.2.1
     rw [(fit_over hfit).2] at e9
     clear hfit
     go_simp
     refine (must_pp _ 2 _ (by decide)).mono ?_
     rintro e w7 ⟨rfl, hbl⟩
     have hb9 := bel_trans HB9.out hbl
     show Leaves _ _ a0.tmps _ a0.defers _ _
     rw [F9.out.1]
     exact leave_caught ⟨rfl, F9.out.2.1, F9.out.2.2, bel_trans HW.out hb9, by omega, by omega, by omega, RES.out.below hb9 RES.out.lt, ERR.out.below hb9 ERR.out.lt⟩
 · intro a0 w9 K9 _ _ hK hC
   obtain ⟨v9, e9, z9⟩ := dep hK 0 (j := 7) (k := 27) rfl rfl rfl
   have Z9 := Lib.hid (show (a.n * b.d) < Top ∧ RdN w9 v9 (a.n * b.d) from z9); clear z9 hK
   go_simp
   exact hC _ _ (bel_refl _) fun _ _ => Z9.out
 · intro a0 w9 K9 _ _ hK hC
   obtain ⟨v9, e9, z9⟩ := dep hK 0 (j := 15) (k := 35) rfl rfl rfl
   have Z9 := Lib.hid (show (b.n * a.d) < Top ∧ RdN w9 v9 (b.n * a.d) from z9); clear z9 hK
   go_simp
   exact hC _ _ (bel_refl _) fun _ _ => Z9.out
 · intro a0 w9 K9 _ _ hK hC
   obtain ⟨v9, e9, z9⟩ := dep hK 0 (j := 23) (k := 43) rfl rfl rfl
   have Z9 := Lib.hid (show (a.d * b.d) < Top ∧ RdN w9 v9 (a.d * b.d) from z9); clear z9 hK
   go_simp
   exact hC _ _ (bel_refl _) fun _ _ => Z9.out
 case fin =>
  intro a0 w9 hF hB hK
  have b2 := hF.base (k := 2) (by kernel_rfl) rfl
  have b3 := hF.base (k := 3) (by kernel_rfl) rfl
  have b4 := hF.base (k := 4) (by kernel_rfl) rfl
  have b6 := hF.base (k := 6) (by kernel_rfl) rfl
  have b7 := hF.base (k := 7) (by kernel_rfl) rfl
  have hsz := hF.size
  have hdf := hF.defers
  clear hF
  obtain ⟨v8, e8, z8⟩ := known hK 24 (k := 8) (by decide) rfl
  obtain ⟨x8, Ax, cx, rfl, hcx, hrx_⟩ := z8
  obtain ⟨v9, e9, z9⟩ := known hK 25 (k := 9) (by decide) rfl
  obtain ⟨x9, Ay, cy, rfl, hcy, hry_⟩ := z9
  obtain ⟨v10, e10, z10⟩ := known hK 26 (k := 10) (by decide) rfl
  obtain ⟨x10, Az, cz, rfl, hcz, hrz_⟩ := z10
  clear hK
  obtain ⟨⟨l0⟩, df⟩ := a0
  have hs0 : l0.length = 54 := hsz
  clear hsz
  replace hdf : df = _ := hdf
  subst hdf
  obtain ⟨u, rfl⟩ := lits_54 hs0
  clear hs0
  have q2 : u 2 = _ := Option.some.inj b2
  clear b2
  have q3 : u 3 = _ := Option.some.inj b3
  clear b3
  have q4 : u 4 = _ := Option.some.inj b4
  clear b4
  have q6 : u 6 = _ := Option.some.inj b6
  clear b6
  have q7 : u 7 = _ := Option.some.inj b7
  clear b7
  have q8 : u 8 = _ := Option.some.inj e8
  clear e8
  have q9 : u 9 = _ := Option.some.inj e9
  clear e9
  have q10 : u 10 = _ := Option.some.inj e10
  clear e10
  rw [q2, q3, q4, q6, q7, q8, q9, q10]
  clear q2 q3 q4 q6 q7 q8 q9 q10
  have hrx := And.intro x8 hrx_; have hry := And.intro x9 hry_; have hrz := And.intro x10 hrz_; clear x8 hrx_ x9 hry_ x10 hrz_
  have HX := Lib.hid hrx; have HY := Lib.hid hry; have HZ := Lib.hid hrz; have HC := Lib.hid (And.intro hcx (And.intro hcy hcz)); clear hrx hry hrz hcx hcy hcz
  refine wpList_nil ?_
  replace HW := Lib.hid (bel_trans HW.out hB)
  replace CX := Lib.hid (CX.out.below hB CX.out.lt)
  replace CY := Lib.hid (CY.out.below hB CY.out.lt)
  replace RES := Lib.hid (RES.out.below hB RES.out.lt)
  replace ERR := Lib.hid (ERR.out.below hB ERR.out.lt)
  clear hB
  clear CX0 CX1 CX2 CY0 CY1 CY2
  have CX0 := CX.out.c0
  have CY0 := CY.out.c0
  by_cases hfit : (a.n * b.d) + (b.n * a.d) < Top
  · obtain ⟨hq, rfl⟩ := HOK.out HX.out.1 HY.out.1 HZ.out.1 hfit
    have HQ := Lib.hid (And.intro hq hfit); clear hq hfit
    go_wp2_with fail
    refine (sum_any a.s (b.s != l) Ax Ay Az cx cy cz (a.n * b.d) (b.n * a.d) (a.d * b.d) _ HX.out.2 HY.out.2 HZ.out.2 HC.out.1 HC.out.2.1 HC.out.2.2 HX.out.1 HY.out.1 HZ.out.1 (den_ne HA.out.den HB.out.den) HQ.out.2 HQ.out.1).mono ?_
    rintro e w11 ⟨vx, vy, rfl, hx, hy, hbl⟩
    have NX := Lib.hid hx; have NY := Lib.hid hy; clear hx hy
    obtain ⟨E1, m1, rfl, _, _⟩ := NX.out.row
    obtain ⟨E2, m2, rfl, _, _⟩ := NY.out.row
    replace RES := hmB RES hbl
    replace ERR := hmB ERR hbl
    replace HW := hmW HW hbl; clear hbl
    clear CX0 CY0
    have d0 := RES.out.cell 0
    have f0 := RES.out.frozen 0
    have d1 := RES.out.cell 1
    have f1 := RES.out.frozen 1
    have d2 := RES.out.cell 2
    have f2 := RES.out.frozen 2
    have d3 := ERR.out.cell 0
    have f3 := ERR.out.frozen 0
    go_wp2
    exact leave_stored rfl rfl rfl HW.out (by omega) (by omega) (by omega) RES.out ERR.out NX.out NY.out
  · obtain ⟨rfl, rfl⟩ := HOV.out fun h => hfit h.2.2.2
    have HQ := Lib.hid hfit; clear hfit
    go_wp2_with fail
    refine (sum_over a.s (b.s != l) Ax Ay _ cx cy (a.n * b.d) (b.n * a.d) _ HX.out.2 HY.out.2 HX.out.1 HY.out.1 HQ.out).mono ?_
    rintro e w11 ⟨rfl, hbl⟩
    exact leave_caught ⟨rfl, rfl, rfl, bel_trans HW.out hbl, by omega, by omega, by omega, RES.out.below hbl RES.out.lt, ERR.out.below hbl ERR.out.lt⟩
end
section
open Go.RowKit

theorem add_of {q : Q} {e : Int} (s s' : Bool) (A B A' B' : Option Addr) (m n m' n' c d c' d' : Nat) (w : World) (hc : ∀ w1, Below w.heap.size w w1 → Calls Tryz.prog 96 #[.agg #[.bool s, .slice A m c, .slice B n d], .agg #[.bool s', .slice A' m' c', .slice B' n' d'], .bool false] w1 (RetQE q e w1)) :
 Calls Tryz.prog 54 #[.agg #[.bool s, .slice A m c, .slice B n d], .agg #[.bool s', .slice A' m' c', .slice B' n' d']] w (RetQE q e w) := by
 have HC := Lib.hid hc; clear hc
 obtain ⟨wa, hwa⟩ : ∃ wa, wa = ((w.alloc (.cells #[.bool s, .slice A m c, .slice B n d] 25)).alloc (.cells #[.bool s', .slice A' m' c', .slice B' n' d'] 25)).alloc (.cells #[.bool false, .slice none 0 0, .slice none 0 0] 25) := ⟨_, rfl⟩
 obtain ⟨hbl, CX, CY, RES⟩ := sal3 hwa
 have HW := Lib.hid hbl; clear hbl
 go_enter Tryz.func54, Tryz.ntmps54
 go_wp2_with fail
 rw [← hwa]
 clear hwa
 have CX0 := CX.out.c0
 have CX1 := CX.out.c1
 have CX2 := CX.out.c2
 have CY0 := CY.out.c0
 have CY1 := CY.out.c1
 have CY2 := CY.out.c2
 refine (HC.out _ HW.out).mono ?_
 rintro e w1 ⟨vx, vy, rfl, hnx, hny, hbl⟩
 replace CX := hmB CX hbl
 replace CY := hmB CY hbl
 replace RES := hmB RES hbl
 replace HW := hmW HW hbl; clear hbl
 clear CX0 CX1 CX2 CY0 CY1 CY2
 have CX0 := CX.out.c0
 have CX1 := CX.out.c1
 have CX2 := CX.out.c2
 have CY0 := CY.out.c0
 have CY1 := CY.out.c1
 have CY2 := CY.out.c2
 have HNx := Lib.hid hnx; clear hnx
 obtain ⟨Ax, cx, rfl, hcx, hrx⟩ := HNx.out.row
 have Rx := Lib.hid hrx; have HCx := Lib.hid hcx; clear hrx hcx
 have HNy := Lib.hid hny; clear hny
 obtain ⟨Ay, cy, rfl, hcy, hry⟩ := HNy.out.row
 have Ry := Lib.hid hry; have HCy := Lib.hid hcy; clear hry hcy
 have d0 := RES.out.c0
 have f0 := RES.out.frozen 0
 have d1 := RES.out.c1
 have f1 := RES.out.frozen 1
 have d2 := RES.out.c2
 have f2 := RES.out.frozen 2
 go_wp2
 exact bodyPost_ret (results_row_tmp rfl _ _ (w.heap.size + 2) 25 _ (0, 0) _ _ rfl rfl (RES.out.put3 _ _ _) Tryz.underlying25 rfl (by kernel_rfl)) rfl ⟨_, _, rfl, (RdN.set3 RES.out (HNx.out) _ _ _), (RdN.set3 RES.out (HNy.out) _ _ _), (bel_set3 (g := w.heap.size + 2) HW.out (by omega) _ _ _)⟩

theorem sub_of {q : Q} {e : Int} (s s' : Bool) (A B A' B' : Option Addr) (m n m' n' c d c' d' : Nat) (w : World) (hc : ∀ w1, Below w.heap.size w w1 → Calls Tryz.prog 96 #[.agg #[.bool s, .slice A m c, .slice B n d], .agg #[.bool s', .slice A' m' c', .slice B' n' d'], .bool true] w1 (RetQE q e w1)) :
 Calls Tryz.prog 55 #[.agg #[.bool s, .slice A m c, .slice B n d], .agg #[.bool s', .slice A' m' c', .slice B' n' d']] w (RetQE q e w) := by
 have HC := Lib.hid hc; clear hc
 obtain ⟨wa, hwa⟩ : ∃ wa, wa = ((w.alloc (.cells #[.bool s, .slice A m c, .slice B n d] 25)).alloc (.cells #[.bool s', .slice A' m' c', .slice B' n' d'] 25)).alloc (.cells #[.bool false, .slice none 0 0, .slice none 0 0] 25) := ⟨_, rfl⟩
 obtain ⟨hbl, CX, CY, RES⟩ := sal3 hwa
 have HW := Lib.hid hbl; clear hbl
 go_enter Tryz.func55, Tryz.ntmps55
 go_wp2_with fail
 rw [← hwa]
 clear hwa
 have CX0 := CX.out.c0
 have CX1 := CX.out.c1
 have CX2 := CX.out.c2
 have CY0 := CY.out.c0
 have CY1 := CY.out.c1
 have CY2 := CY.out.c2
 refine (HC.out _ HW.out).mono ?_
 rintro e w1 ⟨vx, vy, rfl, hnx, hny, hbl⟩
 replace CX := hmB CX hbl
 replace CY := hmB CY hbl
 replace RES := hmB RES hbl
 replace HW := hmW HW hbl; clear hbl
 clear CX0 CX1 CX2 CY0 CY1 CY2
 have CX0 := CX.out.c0
 have CX1 := CX.out.c1
 have CX2 := CX.out.c2
 have CY0 := CY.out.c0
 have CY1 := CY.out.c1
 have CY2 := CY.out.c2
 have HNx := Lib.hid hnx; clear hnx
 obtain ⟨Ax, cx, rfl, hcx, hrx⟩ := HNx.out.row
 have Rx := Lib.hid hrx; have HCx := Lib.hid hcx; clear hrx hcx
 have HNy := Lib.hid hny; clear hny
 obtain ⟨Ay, cy, rfl, hcy, hry⟩ := HNy.out.row
 have Ry := Lib.hid hry; have HCy := Lib.hid hcy; clear hry hcy
 have d0 := RES.out.c0
 have f0 := RES.out.frozen 0
 have d1 := RES.out.c1
 have f1 := RES.out.frozen 1
 have d2 := RES.out.c2
 have f2 := RES.out.frozen 2
 go_wp2
 exact bodyPost_ret (results_row_tmp rfl _ _ (w.heap.size + 2) 25 _ (0, 0) _ _ rfl rfl (RES.out.put3 _ _ _) Tryz.underlying25 rfl (by kernel_rfl)) rfl ⟨_, _, rfl, (RdN.set3 RES.out (HNx.out) _ _ _), (RdN.set3 RES.out (HNy.out) _ _ _), (bel_set3 (g := w.heap.size + 2) HW.out (by omega) _ _ _)⟩
end
end
end Go.Proofs.YtmbbdjpnecjleaaGreat
