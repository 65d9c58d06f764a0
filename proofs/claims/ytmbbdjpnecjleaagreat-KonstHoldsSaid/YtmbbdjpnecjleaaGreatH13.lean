/-
 Parts: QMul.
-/
import Derived.Test.YtmbbdjpnecjleaaGreatH12
namespace Go.Proofs.YtmbbdjpnecjleaaGreat
section
set_option maxRecDepth 100000
set_option maxHeartbeats 1000000
section
open Go.RowKit

theorem mul_walk {q : Q} {e : Int} (A B A' B' : Option Addr) (c d c' d' : Nat) (a b : Q) (w : World) (h1 : RdL w A (limbs a.n)) (h2 : RdL w B (limbs a.d)) (h3 : RdL w A' (limbs b.n)) (h4 : RdL w B' (limbs b.d)) (k1 : (limbs a.n).length ≤ c) (k2 : (limbs a.d).length ≤ d) (k3 : (limbs b.n).length ≤ c') (k4 : (limbs b.d).length ≤ d') (t1 : a.n < Top) (t2 : a.d < Top) (t3 : b.n < Top) (t4 : b.d < Top) (ra : QR a) (rb : QR b) (hov : ¬ ((a.n * b.n) < Top ∧ (a.d * b.d) < Top) → q = noQ ∧ e = 2) (hok : (a.n * b.n) < Top → (a.d * b.d) < Top → redQ (a.s != b.s) (a.n * b.n) (a.d * b.d) = q ∧ e = 0) :
 Calls Tryz.prog 56 #[.agg #[.bool a.s, .slice A (limbs a.n).length c, .slice B (limbs a.d).length d], .agg #[.bool b.s, .slice A' (limbs b.n).length c', .slice B' (limbs b.d).length d']] w (RetQE q e w) := by
 have R1 := Lib.hid h1; clear h1
 have R2 := Lib.hid h2; clear h2
 have R3 := Lib.hid h3; clear h3
 have R4 := Lib.hid h4; clear h4
 have K := Lib.hid (And.intro k1 (And.intro k2 (And.intro k3 k4))); clear k1 k2 k3 k4
 have T := Lib.hid (And.intro t1 (And.intro t2 (And.intro t3 t4))); clear t1 t2 t3 t4
 have HA := Lib.hid ra; clear ra
 have HB := Lib.hid rb; clear rb
 have HOV := Lib.hid hov; clear hov
 have HOK := Lib.hid hok; clear hok
 obtain ⟨wa, hwa⟩ : ∃ wa, wa = (((w.alloc (.cells #[.bool a.s, .slice A (limbs a.n).length c, .slice B (limbs a.d).length d] 25)).alloc (.cells #[.bool b.s, .slice A' (limbs b.n).length c', .slice B' (limbs b.d).length d'] 25)).alloc (.cells #[.bool false, .slice none 0 0, .slice none 0 0] 25)).alloc (.cells #[.int .i64 0] 29) := ⟨_, rfl⟩
 obtain ⟨hbl, CX, CY, RES, ERR⟩ := sal4 hwa
 replace R1 := hmR R1 hbl
 replace R2 := hmR R2 hbl
 replace R3 := hmR R3 hbl
 replace R4 := hmR R4 hbl
 have HW := Lib.hid hbl; clear hbl
 go_enter_defers Tryz.func56, Tryz.ntmps56
 go_wp2_with fail
 rw [← hwa]
 clear hwa
 have CX0 := CX.out.c0
 have CX1 := CX.out.c1
 have CX2 := CX.out.c2
 have CY0 := CY.out.c0
 have CY1 := CY.out.c1
 have CY2 := CY.out.c2
 refine (ratRight_q a A B c d _ R1.out R2.out K.out.1 K.out.2.1 T.out.1 T.out.2.1 HA.out).mono ?_
 rintro e w1 ⟨rfl, hbl⟩
 replace R1 := hmR R1 hbl
 replace R2 := hmR R2 hbl
 replace R3 := hmR R3 hbl
 replace R4 := hmR R4 hbl
 replace CX := hmB CX hbl
 replace CY := hmB CY hbl
 replace RES := hmB RES hbl
 replace ERR := hmB ERR hbl
 replace HW := hmW HW hbl; clear hbl
 clear CX0 CX1 CX2 CY0 CY1 CY2
 have CX0 := CX.out.c0
 have CX1 := CX.out.c1
 have CX2 := CX.out.c2
 have CY0 := CY.out.c0
 have CY1 := CY.out.c1
 have CY2 := CY.out.c2
 go_wp2_with fail
 refine (ratRight_q b A' B' c' d' _ R3.out R4.out K.out.2.2.1 K.out.2.2.2 T.out.2.2.1 T.out.2.2.2 HB.out).mono ?_
 rintro e w2 ⟨rfl, hbl⟩
 replace R1 := hmR R1 hbl
 replace R2 := hmR R2 hbl
 replace R3 := hmR R3 hbl
 replace R4 := hmR R4 hbl
 replace CX := hmB CX hbl
 replace CY := hmB CY hbl
 replace RES := hmB RES hbl
 replace ERR := hmB ERR hbl
 replace HW := hmW HW hbl; clear hbl
 clear CX0 CX1 CX2 CY0 CY1 CY2
 have CX0 := CX.out.c0
 have CX1 := CX.out.c1
 have CX2 := CX.out.c2
 have CY0 := CY.out.c0
 have CY1 := CY.out.c1
 have CY2 := CY.out.c2
 go_wp2_with fail
 refine wp_region_typed 22 (TOf [VIs (.pointer (some ⟨w.heap.size, 0, none⟩)),
  VIs (.bool a.s),
  VIs (.pointer (some ⟨w.heap.size + 1, 0, none⟩)),
  VIs (.bool b.s),
  VIs (.bool (a.s != b.s)),
  VIs (.pointer (some ⟨w.heap.size, 1, none⟩)),
  VIs (.slice A (limbs a.n).length c),
  VIs (.pointer (some ⟨w.heap.size + 1, 1, none⟩)),
  VIs (.slice A' (limbs b.n).length c'),
  VMul (a.n * b.n),
  VFit (a.n * b.n),
  VIs (.int .i64 (fitC (a.n * b.n))),
  VOk (a.n * b.n),
  VIs (.pointer (some ⟨w.heap.size, 2, none⟩)),
  VIs (.slice B (limbs a.d).length d),
  VIs (.pointer (some ⟨w.heap.size + 1, 2, none⟩)),
  VIs (.slice B' (limbs b.d).length d'),
  VMul (a.d * b.d),
  VFit (a.d * b.d),
  VIs (.int .i64 (fitC (a.d * b.d))),
  VOk (a.d * b.d),
  VQ q]) (by kernel_rfl) (by kernel_rfl) (by kernel_rfl) (LiftAll.at_ (.cons (VIs.lift _) (.cons (VIs.lift _) (.cons (VIs.lift _) (.cons (VIs.lift _) (.cons (VIs.lift _) (.cons (VIs.lift _) (.cons (VIs.lift _) (.cons (VIs.lift _) (.cons (VIs.lift _) (.cons (VMul.lift _) (.cons (VFit.lift _) (.cons (VIs.lift _) (.cons (VOk.lift _) (.cons (VIs.lift _) (.cons (VIs.lift _) (.cons (VIs.lift _) (.cons (VIs.lift _) (.cons (VMul.lift _) (.cons (VFit.lift _) (.cons (VIs.lift _) (.cons (VOk.lift _) (.cons (VQ.lift _) .nil))))))))))))))))))))))) (steps_all (steps_cons ?_ (steps_cons ?_ (steps_cons ?_ (steps_cons ?_ (steps_cons ?_ (steps_cons ?_ (steps_cons ?_ (steps_cons ?_ (steps_cons ?_ (steps_cons ?_ (steps_cons ?_ (steps_cons ?_ (steps_cons ?_ (steps_cons ?_ (steps_cons ?_ (steps_cons ?_ (steps_cons ?_ (steps_cons ?_ (steps_cons ?_ (steps_cons ?_ (steps_cons ?_ (steps_cons ?_ steps_zero))))))))))))))))))))))) ?fin
 · intro a0 w9 K9 hF hB hK hC
   have b2 := hF.base (k := 2) (by kernel_rfl) rfl
   clear hF hB hK
   go_simp
   exact hC _ _ (bR _) fun _ _ => rfl
 · intro a0 w9 K9 hF hB hK hC
   have e15 := depV hK 0 rfl rfl rfl rfl
   have x9 := (CX.out.below hB CX.out.lt).c0
   clear hF hB hK
   go_simp
   exact hC _ _ (bR _) fun _ _ => rfl
 · intro a0 w9 K9 hF hB hK hC
   have b3 := hF.base (k := 3) (by kernel_rfl) rfl
   clear hF hB hK
   go_simp
   exact hC _ _ (bR _) fun _ _ => rfl
 · intro a0 w9 K9 hF hB hK hC
   have e17 := depV hK 0 rfl rfl rfl rfl
   have x9 := (CY.out.below hB CY.out.lt).c0
   clear hF hB hK
   go_simp
   exact hC _ _ (bR _) fun _ _ => rfl
 · intro a0 w9 K9 hF hB hK hC
   have e16 := depV hK 0 rfl rfl rfl rfl
   have e18 := depV hK 1 rfl rfl rfl rfl
   have HB9 := Lib.hid hB
   clear hF hB hK
   go_simp
   exact hC _ _ (bR _) fun _ _ => rfl
 · intro a0 w9 K9 hF hB hK hC
   have b2 := hF.base (k := 2) (by kernel_rfl) rfl
   clear hF hB hK
   go_simp
   exact hC _ _ (bR _) fun _ _ => rfl
 · intro a0 w9 K9 hF hB hK hC
   have e20 := depV hK 0 rfl rfl rfl rfl
   have x9 := (CX.out.below hB CX.out.lt).c1
   clear hF hB hK
   go_simp
   exact hC _ _ (bR _) fun _ _ => rfl
 · intro a0 w9 K9 hF hB hK hC
   have b3 := hF.base (k := 3) (by kernel_rfl) rfl
   clear hF hB hK
   go_simp
   exact hC _ _ (bR _) fun _ _ => rfl
 · intro a0 w9 K9 hF hB hK hC
   have e22 := depV hK 0 rfl rfl rfl rfl
   have x9 := (CY.out.below hB CY.out.lt).c1
   clear hF hB hK
   go_simp
   exact hC _ _ (bR _) fun _ _ => rfl
 · intro a0 w9 K9 hF hB hK hC
   have e21 := depV hK 0 rfl rfl rfl rfl
   have e23 := depV hK 1 rfl rfl rfl rfl
   have HB9 := Lib.hid hB
   clear hF hB hK
   go_simp
   refine (mul_num A A' c c' a.n b.n _ (R1.out.below HB9.out) (R3.out.below HB9.out) T.out.1 T.out.2.2.1).mono ?_
   rintro e w7 ⟨u, rfl, hu, hbl⟩
   exact hC _ _ hbl fun _ _ => ⟨u, rfl, hu⟩
 · intro a0 w9 K9 hF hB hK hC
   obtain ⟨v24, e24, z24⟩ := dep hK 0 (g := .data) (j := 9) (k := 24) rfl rfl rfl
   have z24 : ∃ u, v24 = .tuple #[u, .int .i64 (fitC (a.n * b.n))] ∧ RdN w9 u (fitN (a.n * b.n)) := z24
   obtain ⟨u9, rfl, r9⟩ := z24
   have R9 := Lib.hid r9; clear r9
   have HB9 := Lib.hid hB
   clear hF hB hK
   go_simp
   exact hC _ _ (bel_refl _) fun _ _ => R9.out
 · intro a0 w9 K9 hF hB hK hC
   obtain ⟨v24, e24, z24⟩ := dep hK 0 (g := .data) (j := 9) (k := 24) rfl rfl rfl
   have z24 : ∃ u, v24 = .tuple #[u, .int .i64 (fitC (a.n * b.n))] ∧ RdN w9 u (fitN (a.n * b.n)) := z24
   obtain ⟨u9, rfl, r9⟩ := z24
   have R9 := Lib.hid r9; clear r9
   have HB9 := Lib.hid hB
   clear hF hB hK
   go_simp
   exact hC _ _ (bR _) fun _ _ => rfl
 · intro a0 w9 K9 hF hB hK hC
   obtain ⟨v25, e25, z25⟩ := dep hK 0 (g := .data) (j := 10) (k := 25) rfl rfl rfl
   have z25 : RdN w9 v25 (fitN (a.n * b.n)) := z25
   have z8 := z25
   have e26 := depV hK 1 rfl rfl rfl rfl
   have HD := hF.defers
   have B6 := hF.base (k := 4) (v := .pointer (some ⟨w.heap.size + 2, 0, none⟩)) (by kernel_rfl) rfl
   have B7 := hF.base (k := 5) (v := .pointer (some ⟨w.heap.size + 3, 0, none⟩)) (by kernel_rfl) rfl
   have HB9 := Lib.hid hB
   clear hF hB hK
   have b6 := getD_of B6
   have b7 := getD_of B7
   have F9 := Lib.hid (And.intro HD (And.intro b6 b7)); clear HD B6 B7 b6 b7
   have Z8 := Lib.hid z8; clear z8
   by_cases hfit : (a.n * b.n) < Top
   · have Z9 := Lib.hid (And.intro hfit (show RdN w9 v25 (a.n * b.n) by have := Z8.out; rwa [(fit_small hfit).1] at this))
     rw [(fit_small hfit).2] at e26
     clear hfit
     go_simp
     refine (must_bb _ _).mono ?_
     rintro e w7 ⟨rfl, hbl⟩
     exact hC _ _ hbl fun _ _ => ⟨Z9.out.1, Z9.out.2.below hbl⟩
   · obtain ⟨rfl, rfl⟩ := HOV.out fun h => hfit h.1
     rw [(fit_over hfit).2] at e26
     clear hfit
     go_simp
     refine (must_pp _ 2 _ (by decide)).mono ?_
     rintro e w7 ⟨rfl, hbl⟩
     have hb9 := bel_trans HB9.out hbl
     show Leaves _ _ a0.tmps _ a0.defers _ _
     rw [F9.out.1]
     exact leave_caught ⟨rfl, F9.out.2.1, F9.out.2.2, bel_trans HW.out hb9, by omega, by omega, by omega, RES.out.below hb9 RES.out.lt, ERR.out.below hb9 ERR.out.lt⟩
 · intro a0 w9 K9 hF hB hK hC
   have b2 := hF.base (k := 2) (by kernel_rfl) rfl
   clear hF hB hK
   go_simp
   exact hC _ _ (bR _) fun _ _ => rfl
 · intro a0 w9 K9 hF hB hK hC
   have e28 := depV hK 0 rfl rfl rfl rfl
   have x9 := (CX.out.below hB CX.out.lt).c2
   clear hF hB hK
   go_simp
   exact hC _ _ (bR _) fun _ _ => rfl
 · intro a0 w9 K9 hF hB hK hC
   have b3 := hF.base (k := 3) (by kernel_rfl) rfl
   clear hF hB hK
   go_simp
   exact hC _ _ (bR _) fun _ _ => rfl
 · intro a0 w9 K9 hF hB hK hC
   have e30 := depV hK 0 rfl rfl rfl rfl
   have x9 := (CY.out.below hB CY.out.lt).c2
   clear hF hB hK
   go_simp
   exact hC _ _ (bR _) fun _ _ => rfl
 · intro a0 w9 K9 hF hB hK hC
   have e29 := depV hK 0 rfl rfl rfl rfl
   have e31 := depV hK 1 rfl rfl rfl rfl
   have HB9 := Lib.hid hB
   clear hF hB hK
   go_simp
   refine (mul_num B B' d d' a.d b.d _ (R2.out.below HB9.out) (R4.out.below HB9.out) T.out.2.1 T.out.2.2.2).mono ?_
   rintro e w7 ⟨u, rfl, hu, hbl⟩
   exact hC _ _ hbl fun _ _ => ⟨u, rfl, hu⟩
 · intro a0 w9 K9 hF hB hK hC
   obtain ⟨v32, e32, z32⟩ := dep hK 0 (g := .data) (j := 17) (k := 32) rfl rfl rfl
   have z32 : ∃ u, v32 = .tuple #[u, .int .i64 (fitC (a.d * b.d))] ∧ RdN w9 u (fitN (a.d * b.d)) := z32
   obtain ⟨u9, rfl, r9⟩ := z32
   have R9 := Lib.hid r9; clear r9
   have HB9 := Lib.hid hB
   clear hF hB hK
   go_simp
   exact hC _ _ (bel_refl _) fun _ _ => R9.out
 · intro a0 w9 K9 hF hB hK hC
   obtain ⟨v32, e32, z32⟩ := dep hK 0 (g := .data) (j := 17) (k := 32) rfl rfl rfl
   have z32 : ∃ u, v32 = .tuple #[u, .int .i64 (fitC (a.d * b.d))] ∧ RdN w9 u (fitN (a.d * b.d)) := z32
   obtain ⟨u9, rfl, r9⟩ := z32
   have R9 := Lib.hid r9; clear r9
   have HB9 := Lib.hid hB
   clear hF hB hK
   go_simp
   exact hC _ _ (bR _) fun _ _ => rfl
 · intro a0 w9 K9 hF hB hK hC
   obtain ⟨v33, e33, z33⟩ := dep hK 0 (g := .data) (j := 18) (k := 33) rfl rfl rfl
   have z33 : RdN w9 v33 (fitN (a.d * b.d)) := z33
   have z8 := z33
   have e34 := depV hK 1 rfl rfl rfl rfl
   have HD := hF.defers
   have B6 := hF.base (k := 4) (v := .pointer (some ⟨w.heap.size + 2, 0, none⟩)) (by kernel_rfl) rfl
   have B7 := hF.base (k := 5) (v := .pointer (some ⟨w.heap.size + 3, 0, none⟩)) (by kernel_rfl) rfl
   have HB9 := Lib.hid hB
   clear hF hB hK
   have b6 := getD_of B6
   have b7 := getD_of B7
   have F9 := Lib.hid (And.intro HD (And.intro b6 b7)); clear HD B6 B7 b6 b7
   have Z8 := Lib.hid z8; clear z8
   by_cases hfit : (a.d * b.d) < Top
   · have Z9 := Lib.hid (And.intro hfit (show RdN w9 v33 (a.d * b.d) by have := Z8.out; rwa [(fit_small hfit).1] at this))
     rw [(fit_small hfit).2] at e34
     clear hfit
     go_simp
     refine (must_bb _ _).mono ?_
     rintro e w7 ⟨rfl, hbl⟩
     exact hC _ _ hbl fun _ _ => ⟨Z9.out.1, Z9.out.2.below hbl⟩
   · obtain ⟨rfl, rfl⟩ := HOV.out fun h => hfit h.2
     rw [(fit_over hfit).2] at e34
     clear hfit
     go_simp
     refine (must_pp _ 2 _ (by decide)).mono ?_
     rintro e w7 ⟨rfl, hbl⟩
     have hb9 := bel_trans HB9.out hbl
     show Leaves _ _ a0.tmps _ a0.defers _ _
     rw [F9.out.1]
     exact leave_caught ⟨rfl, F9.out.2.1, F9.out.2.2, bel_trans HW.out hb9, by omega, by omega, by omega, RES.out.below hb9 RES.out.lt, ERR.out.below hb9 ERR.out.lt⟩
 · intro a0 w9 K9 hF hB hK hC
   have e19 := depV hK 0 rfl rfl rfl rfl
   obtain ⟨v27, e27, z27⟩ := dep hK 1 (g := .data) (j := 12) (k := 27) rfl rfl rfl
   have z27 : (a.n * b.n) < Top ∧ RdN w9 v27 (a.n * b.n) := z27
   obtain ⟨h0, r0⟩ := z27
   obtain ⟨A0, c0, rfl, i0, j0⟩ := r0
   have N0 := Lib.hid (And.intro h0 (And.intro i0 j0)); clear h0 i0 j0
   obtain ⟨v35, e35, z35⟩ := dep hK 2 (g := .data) (j := 20) (k := 35) rfl rfl rfl
   have z35 : (a.d * b.d) < Top ∧ RdN w9 v35 (a.d * b.d) := z35
   obtain ⟨h1, r1⟩ := z35
   obtain ⟨A1, c1, rfl, i1, j1⟩ := r1
   have N1 := Lib.hid (And.intro h1 (And.intro i1 j1)); clear h1 i1 j1
   have HB9 := Lib.hid hB
   clear hF hB hK
   obtain ⟨hq, rfl⟩ := HOK.out N0.out.1 N1.out.1
   have HQ := Lib.hid hq; clear hq
   go_simp
   refine (reduced_q (a.s != b.s) A0 A1 c0 c1 (a.n * b.n) (a.d * b.d) _ N0.out.2.2 N1.out.2.2 N0.out.2.1 N1.out.2.1 N0.out.1 N1.out.1 (den_ne HA.out.den HB.out.den) HQ.out).mono ?_
   rintro e w7 ⟨x, y, rfl, hx, hy, hbl⟩
   exact hC _ _ hbl fun _ _ => ⟨x, y, rfl, hx, hy⟩
 case fin =>
  intro a0 w9 hF hB hK
  have b2 := hF.base (k := 2) (by kernel_rfl) rfl
  have b3 := hF.base (k := 3) (by kernel_rfl) rfl
  have b4 := hF.base (k := 4) (by kernel_rfl) rfl
  have b5 := hF.base (k := 5) (by kernel_rfl) rfl
  have hsz := hF.size
  have hdf := hF.defers
  clear hF
  obtain ⟨v27, e27, z27⟩ := known hK 12 (k := 27) (by decide) rfl
  have z27 : (a.n * b.n) < Top ∧ RdN w9 v27 (a.n * b.n) := z27
  obtain ⟨h0, r0⟩ := z27
  obtain ⟨A0, c0, rfl, i0, j0⟩ := r0
  have N0 := Lib.hid (And.intro h0 (And.intro i0 j0)); clear h0 i0 j0
  obtain ⟨v35, e35, z35⟩ := known hK 20 (k := 35) (by decide) rfl
  have z35 : (a.d * b.d) < Top ∧ RdN w9 v35 (a.d * b.d) := z35
  obtain ⟨h1, r1⟩ := z35
  obtain ⟨A1, c1, rfl, i1, j1⟩ := r1
  have N1 := Lib.hid (And.intro h1 (And.intro i1 j1)); clear h1 i1 j1
  obtain ⟨v36, e36, z36⟩ := known hK 21 (k := 36) (by decide) rfl
  have z36 : ∃ x y, v36 = .agg #[.bool q.s, x, y] ∧ RdN w9 x q.n ∧ RdN w9 y q.d := z36
  obtain ⟨x9, y9, rfl, p9, q9⟩ := z36
  have NX := Lib.hid p9; have NY := Lib.hid q9; clear p9 q9
  obtain ⟨E1, m1, rfl, _, _⟩ := NX.out.row
  obtain ⟨E2, m2, rfl, _, _⟩ := NY.out.row
  clear hK
  obtain ⟨⟨l0⟩, df⟩ := a0
  have hs0 : l0.length = 37 := hsz
  clear hsz
  replace hdf : df = _ := hdf
  subst hdf
  obtain ⟨u, rfl⟩ := lits_37 hs0
  clear hs0
  have q2 : u 2 = _ := Option.some.inj b2
  clear b2
  have q3 : u 3 = _ := Option.some.inj b3
  clear b3
  have q4 : u 4 = _ := Option.some.inj b4
  clear b4
  have q5 : u 5 = _ := Option.some.inj b5
  clear b5
  have q27 : u 27 = _ := Option.some.inj e27
  clear e27
  have q35 : u 35 = _ := Option.some.inj e35
  clear e35
  have q36 : u 36 = _ := Option.some.inj e36
  clear e36
  rw [q2, q3, q4, q5, q27, q35, q36]
  clear q2 q3 q4 q5 q27 q35 q36
  have hbl := hB; clear hB
  replace R1 := hmR R1 hbl
  replace R2 := hmR R2 hbl
  replace R3 := hmR R3 hbl
  replace R4 := hmR R4 hbl
  replace CX := hmB CX hbl
  replace CY := hmB CY hbl
  replace RES := hmB RES hbl
  replace ERR := hmB ERR hbl
  replace HW := hmW HW hbl; clear hbl
  clear CX0 CX1 CX2 CY0 CY1 CY2
  have CX0 := CX.out.c0
  have CX1 := CX.out.c1
  have CX2 := CX.out.c2
  have CY0 := CY.out.c0
  have CY1 := CY.out.c1
  have CY2 := CY.out.c2
  simp only [List.drop_succ_cons, List.drop_zero]
  obtain ⟨_, rfl⟩ := HOK.out N0.out.1 N1.out.1
  have d0 := RES.out.cell 0
  have f0 := RES.out.frozen 0
  have d1 := RES.out.cell 1
  have f1 := RES.out.frozen 1
  have d2 := RES.out.cell 2
  have f2 := RES.out.frozen 2
  have d3 := ERR.out.cell 0
  have f3 := ERR.out.frozen 0
  go_wp2
  exact leave_stored rfl rfl rfl HW.out (by omega) (by omega) (by omega) RES.out ERR.out NX.out NY.out

end
section
open Go.RowKit

theorem quo_walk {q : Q} {e : Int} (A B A' B' : Option Addr) (c d c' d' : Nat) (a b : Q) (w : World) (h1 : RdL w A (limbs a.n)) (h2 : RdL w B (limbs a.d)) (h3 : RdL w A' (limbs b.n)) (h4 : RdL w B' (limbs b.d)) (k1 : (limbs a.n).length ≤ c) (k2 : (limbs a.d).length ≤ d) (k3 : (limbs b.n).length ≤ c') (k4 : (limbs b.d).length ≤ d') (t1 : a.n < Top) (t2 : a.d < Top) (t3 : b.n < Top) (t4 : b.d < Top) (ra : QR a) (rb : QR b) (hb0 : b.n ≠ 0) (hov : ¬ ((a.n * b.d) < Top ∧ (a.d * b.n) < Top) → q = noQ ∧ e = 2) (hok : (a.n * b.d) < Top → (a.d * b.n) < Top → redQ (a.s != b.s) (a.n * b.d) (a.d * b.n) = q ∧ e = 0) :
 Calls Tryz.prog 101 #[.agg #[.bool a.s, .slice A (limbs a.n).length c, .slice B (limbs a.d).length d], .agg #[.bool b.s, .slice A' (limbs b.n).length c', .slice B' (limbs b.d).length d']] w (RetQE q e w) := by
 have R1 := Lib.hid h1; clear h1
 have R2 := Lib.hid h2; clear h2
 have R3 := Lib.hid h3; clear h3
 have R4 := Lib.hid h4; clear h4
 have K := Lib.hid (And.intro k1 (And.intro k2 (And.intro k3 k4))); clear k1 k2 k3 k4
 have T := Lib.hid (And.intro t1 (And.intro t2 (And.intro t3 t4))); clear t1 t2 t3 t4
 have HA := Lib.hid ra; clear ra
 have HB := Lib.hid rb; clear rb
 have HOV := Lib.hid hov; clear hov
 have HOK := Lib.hid hok; clear hok
 have hx2 : ¬ ((limbs b.n).length : Int) = 0 := mt limbs_len0.1 hb0
 have hx : (((limbs b.n).length : Int) == 0) = false := by simpa using hx2
 have HB0 := Lib.hid hb0; clear hb0
 obtain ⟨wa, hwa⟩ : ∃ wa, wa = (((w.alloc (.cells #[.bool a.s, .slice A (limbs a.n).length c, .slice B (limbs a.d).length d] 25)).alloc (.cells #[.bool b.s, .slice A' (limbs b.n).length c', .slice B' (limbs b.d).length d'] 25)).alloc (.cells #[.bool false, .slice none 0 0, .slice none 0 0] 25)).alloc (.cells #[.int .i64 0] 29) := ⟨_, rfl⟩
 obtain ⟨hbl, CX, CY, RES, ERR⟩ := sal4 hwa
 replace R1 := hmR R1 hbl
 replace R2 := hmR R2 hbl
 replace R3 := hmR R3 hbl
 replace R4 := hmR R4 hbl
 have HW := Lib.hid hbl; clear hbl
 go_enter_defers Tryz.func101, Tryz.ntmps101
 go_wp2_with fail
 rw [← hwa]
 clear hwa
 have CX0 := CX.out.c0
 have CX1 := CX.out.c1
 have CX2 := CX.out.c2
 have CY0 := CY.out.c0
 have CY1 := CY.out.c1
 have CY2 := CY.out.c2
 refine (ratRight_q a A B c d _ R1.out R2.out K.out.1 K.out.2.1 T.out.1 T.out.2.1 HA.out).mono ?_
 rintro e w1 ⟨rfl, hbl⟩
 replace R1 := hmR R1 hbl
 replace R2 := hmR R2 hbl
 replace R3 := hmR R3 hbl
 replace R4 := hmR R4 hbl
 replace CX := hmB CX hbl
 replace CY := hmB CY hbl
 replace RES := hmB RES hbl
 replace ERR := hmB ERR hbl
 replace HW := hmW HW hbl; clear hbl
 clear CX0 CX1 CX2 CY0 CY1 CY2
 have CX0 := CX.out.c0
 have CX1 := CX.out.c1
 have CX2 := CX.out.c2
 have CY0 := CY.out.c0
 have CY1 := CY.out.c1
 have CY2 := CY.out.c2
 go_wp2_with fail
 refine (ratRight_q b A' B' c' d' _ R3.out R4.out K.out.2.2.1 K.out.2.2.2 T.out.2.2.1 T.out.2.2.2 HB.out).mono ?_
 rintro e w2 ⟨rfl, hbl⟩
 replace R1 := hmR R1 hbl
 replace R2 := hmR R2 hbl
 replace R3 := hmR R3 hbl
 replace R4 := hmR R4 hbl
 replace CX := hmB CX hbl
 replace CY := hmB CY hbl
 replace RES := hmB RES hbl
 replace ERR := hmB ERR hbl
 replace HW := hmW HW hbl; clear hbl
 clear CX0 CX1 CX2 CY0 CY1 CY2
 have CX0 := CX.out.c0
 have CX1 := CX.out.c1
 have CX2 := CX.out.c2
 have CY0 := CY.out.c0
 have CY1 := CY.out.c1
 have CY2 := CY.out.c2
 go_wp2_with fail
 refine wp_region_typed 22 (TOf [VIs (.pointer (some ⟨w.heap.size, 0, none⟩)),
  VIs (.bool a.s),
  VIs (.pointer (some ⟨w.heap.size + 1, 0, none⟩)),
  VIs (.bool b.s),
  VIs (.bool (a.s != b.s)),
  VIs (.pointer (some ⟨w.heap.size, 1, none⟩)),
  VIs (.slice A (limbs a.n).length c),
  VIs (.pointer (some ⟨w.heap.size + 1, 2, none⟩)),
  VIs (.slice B' (limbs b.d).length d'),
  VMul (a.n * b.d),
  VFit (a.n * b.d),
  VIs (.int .i64 (fitC (a.n * b.d))),
  VOk (a.n * b.d),
  VIs (.pointer (some ⟨w.heap.size, 2, none⟩)),
  VIs (.slice B (limbs a.d).length d),
  VIs (.pointer (some ⟨w.heap.size + 1, 1, none⟩)),
  VIs (.slice A' (limbs b.n).length c'),
  VMul (a.d * b.n),
  VFit (a.d * b.n),
  VIs (.int .i64 (fitC (a.d * b.n))),
  VOk (a.d * b.n),
  VQ q]) (by kernel_rfl) (by kernel_rfl) (by kernel_rfl) (LiftAll.at_ (.cons (VIs.lift _) (.cons (VIs.lift _) (.cons (VIs.lift _) (.cons (VIs.lift _) (.cons (VIs.lift _) (.cons (VIs.lift _) (.cons (VIs.lift _) (.cons (VIs.lift _) (.cons (VIs.lift _) (.cons (VMul.lift _) (.cons (VFit.lift _) (.cons (VIs.lift _) (.cons (VOk.lift _) (.cons (VIs.lift _) (.cons (VIs.lift _) (.cons (VIs.lift _) (.cons (VIs.lift _) (.cons (VMul.lift _) (.cons (VFit.lift _) (.cons (VIs.lift _) (.cons (VOk.lift _) (.cons (VQ.lift _) .nil))))))))))))))))))))))) (steps_all (steps_cons ?_ (steps_cons ?_ (steps_cons ?_ (steps_cons ?_ (steps_cons ?_ (steps_cons ?_ (steps_cons ?_ (steps_cons ?_ (steps_cons ?_ (steps_cons ?_ (steps_cons ?_ (steps_cons ?_ (steps_cons ?_ (steps_cons ?_ (steps_cons ?_ (steps_cons ?_ (steps_cons ?_ (steps_cons ?_ (steps_cons ?_ (steps_cons ?_ (steps_cons ?_ (steps_cons ?_ steps_zero))))))))))))))))))))))) ?fin
 · intro a0 w9 K9 hF hB hK hC
   have b2 := hF.base (k := 2) (by kernel_rfl) rfl
   clear hF hB hK
   go_simp
   exact hC _ _ (bR _) fun _ _ => rfl
 · intro a0 w9 K9 hF hB hK hC
   have e22 := depV hK 0 rfl rfl rfl rfl
   have x9 := (CX.out.below hB CX.out.lt).c0
   clear hF hB hK
   go_simp
   exact hC _ _ (bR _) fun _ _ => rfl
 · intro a0 w9 K9 hF hB hK hC
   have b3 := hF.base (k := 3) (by kernel_rfl) rfl
   clear hF hB hK
   go_simp
   exact hC _ _ (bR _) fun _ _ => rfl
 · intro a0 w9 K9 hF hB hK hC
   have e24 := depV hK 0 rfl rfl rfl rfl
   have x9 := (CY.out.below hB CY.out.lt).c0
   clear hF hB hK
   go_simp
   exact hC _ _ (bR _) fun _ _ => rfl
 · intro a0 w9 K9 hF hB hK hC
   have e23 := depV hK 0 rfl rfl rfl rfl
   have e25 := depV hK 1 rfl rfl rfl rfl
   have HB9 := Lib.hid hB
   clear hF hB hK
   go_simp
   exact hC _ _ (bR _) fun _ _ => rfl
 · intro a0 w9 K9 hF hB hK hC
   have b2 := hF.base (k := 2) (by kernel_rfl) rfl
   clear hF hB hK
   go_simp
   exact hC _ _ (bR _) fun _ _ => rfl
 · intro a0 w9 K9 hF hB hK hC
   have e27 := depV hK 0 rfl rfl rfl rfl
   have x9 := (CX.out.below hB CX.out.lt).c1
   clear hF hB hK
   go_simp
   exact hC _ _ (bR _) fun _ _ => rfl
 · intro a0 w9 K9 hF hB hK hC
   have b3 := hF.base (k := 3) (by kernel_rfl) rfl
   clear hF hB hK
   go_simp
   exact hC _ _ (bR _) fun _ _ => rfl
 · intro a0 w9 K9 hF hB hK hC
   have e29 := depV hK 0 rfl rfl rfl rfl
   have x9 := (CY.out.below hB CY.out.lt).c2
   clear hF hB hK
   go_simp
   exact hC _ _ (bR _) fun _ _ => rfl
 · intro a0 w9 K9 hF hB hK hC
   have e28 := depV hK 0 rfl rfl rfl rfl
   have e30 := depV hK 1 rfl rfl rfl rfl
   have HB9 := Lib.hid hB
   clear hF hB hK
   go_simp
   refine (mul_num A B' c d' a.n b.d _ (R1.out.below HB9.out) (R4.out.below HB9.out) T.out.1 T.out.2.2.2).mono ?_
   rintro e w7 ⟨u, rfl, hu, hbl⟩
   exact hC _ _ hbl fun _ _ => ⟨u, rfl, hu⟩
 · intro a0 w9 K9 hF hB hK hC
   obtain ⟨v31, e31, z31⟩ := dep hK 0 (g := .data) (j := 9) (k := 31) rfl rfl rfl
   have z31 : ∃ u, v31 = .tuple #[u, .int .i64 (fitC (a.n * b.d))] ∧ RdN w9 u (fitN (a.n * b.d)) := z31
   obtain ⟨u9, rfl, r9⟩ := z31
   have R9 := Lib.hid r9; clear r9
   have HB9 := Lib.hid hB
   clear hF hB hK
   go_simp
   exact hC _ _ (bel_refl _) fun _ _ => R9.out
 · intro a0 w9 K9 hF hB hK hC
   obtain ⟨v31, e31, z31⟩ := dep hK 0 (g := .data) (j := 9) (k := 31) rfl rfl rfl
   have z31 : ∃ u, v31 = .tuple #[u, .int .i64 (fitC (a.n * b.d))] ∧ RdN w9 u (fitN (a.n * b.d)) := z31
   obtain ⟨u9, rfl, r9⟩ := z31
   have R9 := Lib.hid r9; clear r9
   have HB9 := Lib.hid hB
   clear hF hB hK
   go_simp
   exact hC _ _ (bR _) fun _ _ => rfl
 · intro a0 w9 K9 hF hB hK hC
   obtain ⟨v32, e32, z32⟩ := dep hK 0 (g := .data) (j := 10) (k := 32) rfl rfl rfl
   have z32 : RdN w9 v32 (fitN (a.n * b.d)) := z32
   have z8 := z32
   have e33 := depV hK 1 rfl rfl rfl rfl
   have HD := hF.defers
   have B6 := hF.base (k := 4) (v := .pointer (some ⟨w.heap.size + 2, 0, none⟩)) (by kernel_rfl) rfl
   have B7 := hF.base (k := 5) (v := .pointer (some ⟨w.heap.size + 3, 0, none⟩)) (by kernel_rfl) rfl
   have HB9 := Lib.hid hB
   clear hF hB hK
   have b6 := getD_of B6
   have b7 := getD_of B7
   have F9 := Lib.hid (And.intro HD (And.intro b6 b7)); clear HD B6 B7 b6 b7
   have Z8 := Lib.hid z8; clear z8
   by_cases hfit : (a.n * b.d) < Top
   · have Z9 := Lib.hid (And.intro hfit (show RdN w9 v32 (a.n * b.d) by have := Z8.out; rwa [(fit_small hfit).1] at this))
     rw [(fit_small hfit).2] at e33
     clear hfit
     go_simp
     refine (must_bb _ _).mono ?_
     rintro e w7 ⟨rfl, hbl⟩
     exact hC _ _ hbl fun _ _ => ⟨Z9.out.1, Z9.out.2.below hbl⟩
   · obtain ⟨rfl, rfl⟩ := HOV.out fun h => hfit h.1
     rw [(fit_over hfit).2] at e33
     clear hfit
     go_simp
     refine (must_pp _ 2 _ (by decide)).mono ?_
     rintro e w7 ⟨rfl, hbl⟩
     have hb9 := bel_trans HB9.out hbl
     show Leaves _ _ a0.tmps _ a0.defers _ _
     rw [F9.out.1]
     exact leave_caught ⟨rfl, F9.out.2.1, F9.out.2.2, bel_trans HW.out hb9, by omega, by omega, by omega, RES.out.below hb9 RES.out.lt, ERR.out.below hb9 ERR.out.lt⟩
 · intro a0 w9 K9 hF hB hK hC
   have b2 := hF.base (k := 2) (by kernel_rfl) rfl
   clear hF hB hK
   go_simp
   exact hC _ _ (bR _) fun _ _ => rfl
 · intro a0 w9 K9 hF hB hK hC
   have e35 := depV hK 0 rfl rfl rfl rfl
   have x9 := (CX.out.below hB CX.out.lt).c2
   clear hF hB hK
   go_simp
   exact hC _ _ (bR _) fun _ _ => rfl
 · intro a0 w9 K9 hF hB hK hC
   have b3 := hF.base (k := 3) (by kernel_rfl) rfl
   clear hF hB hK
   go_simp
   exact hC _ _ (bR _) fun _ _ => rfl
 · intro a0 w9 K9 hF hB hK hC
   have e37 := depV hK 0 rfl rfl rfl rfl
   have x9 := (CY.out.below hB CY.out.lt).c1
   clear hF hB hK
   go_simp
   exact hC _ _ (bR _) fun _ _ => rfl
 · intro a0 w9 K9 hF hB hK hC
   have e36 := depV hK 0 rfl rfl rfl rfl
   have e38 := depV hK 1 rfl rfl rfl rfl
   have HB9 := Lib.hid hB
   clear hF hB hK
   go_simp
   refine (mul_num B A' d c' a.d b.n _ (R2.out.below HB9.out) (R3.out.below HB9.out) T.out.2.1 T.out.2.2.1).mono ?_
   rintro e w7 ⟨u, rfl, hu, hbl⟩
   exact hC _ _ hbl fun _ _ => ⟨u, rfl, hu⟩
 · intro a0 w9 K9 hF hB hK hC
   obtain ⟨v39, e39, z39⟩ := dep hK 0 (g := .data) (j := 17) (k := 39) rfl rfl rfl
   have z39 : ∃ u, v39 = .tuple #[u, .int .i64 (fitC (a.d * b.n))] ∧ RdN w9 u (fitN (a.d * b.n)) := z39
   obtain ⟨u9, rfl, r9⟩ := z39
   have R9 := Lib.hid r9; clear r9
   have HB9 := Lib.hid hB
   clear hF hB hK
   go_simp
   exact hC _ _ (bel_refl _) fun _ _ => R9.out
 · intro a0 w9 K9 hF hB hK hC
   obtain ⟨v39, e39, z39⟩ := dep hK 0 (g := .data) (j := 17) (k := 39) rfl rfl rfl
   have z39 : ∃ u, v39 = .tuple #[u, .int .i64 (fitC (a.d * b.n))] ∧ RdN w9 u (fitN (a.d * b.n)) := z39
   obtain ⟨u9, rfl, r9⟩ := z39
   have R9 := Lib.hid r9; clear r9
   have HB9 := Lib.hid hB
   clear hF hB hK
   go_simp
   exact hC _ _ (bR _) fun _ _ => rfl
 · intro a0 w9 K9 hF hB hK hC
   obtain ⟨v40, e40, z40⟩ := dep hK 0 (g := .data) (j := 18) (k := 40) rfl rfl rfl
   have z40 : RdN w9 v40 (fitN (a.d * b.n)) := z40
   have z8 := z40
   have e41 := depV hK 1 rfl rfl rfl rfl
   have HD := hF.defers
   have B6 := hF.base (k := 4) (v := .pointer (some ⟨w.heap.size + 2, 0, none⟩)) (by kernel_rfl) rfl
   have B7 := hF.base (k := 5) (v := .pointer (some ⟨w.heap.size + 3, 0, none⟩)) (by kernel_rfl) rfl
   have HB9 := Lib.hid hB
   clear hF hB hK
   have b6 := getD_of B6
   have b7 := getD_of B7
   have F9 := Lib.hid (And.intro HD (And.intro b6 b7)); clear HD B6 B7 b6 b7
   have Z8 := Lib.hid z8; clear z8
   by_cases hfit : (a.d * b.n) < Top
   · have Z9 := Lib.hid (And.intro hfit (show RdN w9 v40 (a.d * b.n) by have := Z8.out; rwa [(fit_small hfit).1] at this))
     rw [(fit_small hfit).2] at e41
     clear hfit
     go_simp
     refine (must_bb _ _).mono ?_
     rintro e w7 ⟨rfl, hbl⟩
     exact hC _ _ hbl fun _ _ => ⟨Z9.out.1, Z9.out.2.below hbl⟩
   · obtain ⟨rfl, rfl⟩ := HOV.out fun h => hfit h.2
     rw [(fit_over hfit).2] at e41
     clear hfit
     go_simp
     refine (must_pp _ 2 _ (by decide)).mono ?_
     rintro e w7 ⟨rfl, hbl⟩
     have hb9 := bel_trans HB9.out hbl
     show Leaves _ _ a0.tmps _ a0.defers _ _
     rw [F9.out.1]
     exact leave_caught ⟨rfl, F9.out.2.1, F9.out.2.2, bel_trans HW.out hb9, by omega, by omega, by omega, RES.out.below hb9 RES.out.lt, ERR.out.below hb9 ERR.out.lt⟩
 · intro a0 w9 K9 hF hB hK hC
   have e26 := depV hK 0 rfl rfl rfl rfl
   obtain ⟨v34, e34, z34⟩ := dep hK 1 (g := .data) (j := 12) (k := 34) rfl rfl rfl
   have z34 : (a.n * b.d) < Top ∧ RdN w9 v34 (a.n * b.d) := z34
   obtain ⟨h0, r0⟩ := z34
   obtain ⟨A0, c0, rfl, i0, j0⟩ := r0
   have N0 := Lib.hid (And.intro h0 (And.intro i0 j0)); clear h0 i0 j0
   obtain ⟨v42, e42, z42⟩ := dep hK 2 (g := .data) (j := 20) (k := 42) rfl rfl rfl
   have z42 : (a.d * b.n) < Top ∧ RdN w9 v42 (a.d * b.n) := z42
   obtain ⟨h1, r1⟩ := z42
   obtain ⟨A1, c1, rfl, i1, j1⟩ := r1
   have N1 := Lib.hid (And.intro h1 (And.intro i1 j1)); clear h1 i1 j1
   have HB9 := Lib.hid hB
   clear hF hB hK
   obtain ⟨hq, rfl⟩ := HOK.out N0.out.1 N1.out.1
   have HQ := Lib.hid hq; clear hq
   go_simp
   refine (reduced_q (a.s != b.s) A0 A1 c0 c1 (a.n * b.d) (a.d * b.n) _ N0.out.2.2 N1.out.2.2 N0.out.2.1 N1.out.2.1 N0.out.1 N1.out.1 (den_ne HA.out.den HB0.out) HQ.out).mono ?_
   rintro e w7 ⟨x, y, rfl, hx, hy, hbl⟩
   exact hC _ _ hbl fun _ _ => ⟨x, y, rfl, hx, hy⟩
 case fin =>
  intro a0 w9 hF hB hK
  have b2 := hF.base (k := 2) (by kernel_rfl) rfl
  have b3 := hF.base (k := 3) (by kernel_rfl) rfl
  have b4 := hF.base (k := 4) (by kernel_rfl) rfl
  have b5 := hF.base (k := 5) (by kernel_rfl) rfl
  have hsz := hF.size
  have hdf := hF.defers
  clear hF
  obtain ⟨v34, e34, z34⟩ := known hK 12 (k := 34) (by decide) rfl
  have z34 : (a.n * b.d) < Top ∧ RdN w9 v34 (a.n * b.d) := z34
  obtain ⟨h0, r0⟩ := z34
  obtain ⟨A0, c0, rfl, i0, j0⟩ := r0
  have N0 := Lib.hid (And.intro h0 (And.intro i0 j0)); clear h0 i0 j0
  obtain ⟨v42, e42, z42⟩ := known hK 20 (k := 42) (by decide) rfl
  have z42 : (a.d * b.n) < Top ∧ RdN w9 v42 (a.d * b.n) := z42
  obtain ⟨h1, r1⟩ := z42
  obtain ⟨A1, c1, rfl, i1, j1⟩ := r1
  have N1 := Lib.hid (And.intro h1 (And.intro i1 j1)); clear h1 i1 j1
  obtain ⟨v43, e43, z43⟩ := known hK 21 (k := 43) (by decide) rfl
  have z43 : ∃ x y, v43 = .agg #[.bool q.s, x, y] ∧ RdN w9 x q.n ∧ RdN w9 y q.d := z43
  obtain ⟨x9, y9, rfl, p9, q9⟩ := z43
  have NX := Lib.hid p9; have NY := Lib.hid q9; clear p9 q9
  obtain ⟨E1, m1, rfl, _, _⟩ := NX.out.row
  obtain ⟨E2, m2, rfl, _, _⟩ := NY.out.row
  clear hK
  obtain ⟨⟨l0⟩, df⟩ := a0
  have hs0 : l0.length = 44 := hsz
  clear hsz
  replace hdf : df = _ := hdf
  subst hdf
  obtain ⟨u, rfl⟩ := lits_44 hs0
  clear hs0
  have q2 : u 2 = _ := Option.some.inj b2
  clear b2
  have q3 : u 3 = _ := Option.some.inj b3
  clear b3
  have q4 : u 4 = _ := Option.some.inj b4
  clear b4
  have q5 : u 5 = _ := Option.some.inj b5
  clear b5
  have q34 : u 34 = _ := Option.some.inj e34
  clear e34
  have q42 : u 42 = _ := Option.some.inj e42
  clear e42
  have q43 : u 43 = _ := Option.some.inj e43
  clear e43
  rw [q2, q3, q4, q5, q34, q42, q43]
  clear q2 q3 q4 q5 q34 q42 q43
  have hbl := hB; clear hB
  replace R1 := hmR R1 hbl
  replace R2 := hmR R2 hbl
  replace R3 := hmR R3 hbl
  replace R4 := hmR R4 hbl
  replace CX := hmB CX hbl
  replace CY := hmB CY hbl
  replace RES := hmB RES hbl
  replace ERR := hmB ERR hbl
  replace HW := hmW HW hbl; clear hbl
  clear CX0 CX1 CX2 CY0 CY1 CY2
  have CX0 := CX.out.c0
  have CX1 := CX.out.c1
  have CX2 := CX.out.c2
  have CY0 := CY.out.c0
  have CY1 := CY.out.c1
  have CY2 := CY.out.c2
  simp only [List.drop_succ_cons, List.drop_zero]
  obtain ⟨_, rfl⟩ := HOK.out N0.out.1 N1.out.1
  have d0 := RES.out.cell 0
  have f0 := RES.out.frozen 0
  have d1 := RES.out.cell 1
  have f1 := RES.out.frozen 1
  have d2 := RES.out.cell 2
  have f2 := RES.out.frozen 2
  have d3 := ERR.out.cell 0
  have f3 := ERR.out.frozen 0
  go_wp2
  exact leave_stored rfl rfl rfl HW.out (by omega) (by omega) (by omega) RES.out ERR.out NX.out NY.out

theorem quo_zero (A B A' B' : Option Addr) (c d c' d' : Nat) (a b : Q) (w : World) (h1 : RdL w A (limbs a.n)) (h2 : RdL w B (limbs a.d)) (h3 : RdL w A' (limbs b.n)) (h4 : RdL w B' (limbs b.d)) (k1 : (limbs a.n).length ≤ c) (k2 : (limbs a.d).length ≤ d) (k3 : (limbs b.n).length ≤ c') (k4 : (limbs b.d).length ≤ d') (t1 : a.n < Top) (t2 : a.d < Top) (t3 : b.n < Top) (t4 : b.d < Top) (ra : QR a) (rb : QR b) (hb0 : b.n = 0) :
 Calls Tryz.prog 101 #[.agg #[.bool a.s, .slice A (limbs a.n).length c, .slice B (limbs a.d).length d], .agg #[.bool b.s, .slice A' (limbs b.n).length c', .slice B' (limbs b.d).length d']] w (RetQE noQ 4 w) := by
 have R1 := Lib.hid h1; clear h1
 have R2 := Lib.hid h2; clear h2
 have R3 := Lib.hid h3; clear h3
 have R4 := Lib.hid h4; clear h4
 have K := Lib.hid (And.intro k1 (And.intro k2 (And.intro k3 k4))); clear k1 k2 k3 k4
 have T := Lib.hid (And.intro t1 (And.intro t2 (And.intro t3 t4))); clear t1 t2 t3 t4
 have HA := Lib.hid ra; clear ra
 have HB := Lib.hid rb; clear rb
 have hx2 : ((limbs b.n).length : Int) = 0 := limbs_len0.2 hb0
 have hx : (((limbs b.n).length : Int) == 0) = true := by simpa using hx2
 clear hb0
 obtain ⟨wa, hwa⟩ : ∃ wa, wa = (((w.alloc (.cells #[.bool a.s, .slice A (limbs a.n).length c, .slice B (limbs a.d).length d] 25)).alloc (.cells #[.bool b.s, .slice A' (limbs b.n).length c', .slice B' (limbs b.d).length d'] 25)).alloc (.cells #[.bool false, .slice none 0 0, .slice none 0 0] 25)).alloc (.cells #[.int .i64 0] 29) := ⟨_, rfl⟩
 obtain ⟨hbl, CX, CY, RES, ERR⟩ := sal4 hwa
 replace R1 := hmR R1 hbl
 replace R2 := hmR R2 hbl
 replace R3 := hmR R3 hbl
 replace R4 := hmR R4 hbl
 have HW := Lib.hid hbl; clear hbl
 go_enter_defers Tryz.func101, Tryz.ntmps101
 go_wp2_with fail
 rw [← hwa]
 clear hwa
 have CX0 := CX.out.c0
 have CX1 := CX.out.c1
 have CX2 := CX.out.c2
 have CY0 := CY.out.c0
 have CY1 := CY.out.c1
 have CY2 := CY.out.c2
 refine (ratRight_q a A B c d _ R1.out R2.out K.out.1 K.out.2.1 T.out.1 T.out.2.1 HA.out).mono ?_
 rintro e w1 ⟨rfl, hbl⟩
 replace R1 := hmR R1 hbl
 replace R2 := hmR R2 hbl
 replace R3 := hmR R3 hbl
 replace R4 := hmR R4 hbl
 replace CX := hmB CX hbl
 replace CY := hmB CY hbl
 replace RES := hmB RES hbl
 replace ERR := hmB ERR hbl
 replace HW := hmW HW hbl; clear hbl
 clear CX0 CX1 CX2 CY0 CY1 CY2
 have CX0 := CX.out.c0
 have CX1 := CX.out.c1
 have CX2 := CX.out.c2
 have CY0 := CY.out.c0
 have CY1 := CY.out.c1
 have CY2 := CY.out.c2
 go_wp2_with fail
 refine (ratRight_q b A' B' c' d' _ R3.out R4.out K.out.2.2.1 K.out.2.2.2 T.out.2.2.1 T.out.2.2.2 HB.out).mono ?_
 rintro e w2 ⟨rfl, hbl⟩
 replace R1 := hmR R1 hbl
 replace R2 := hmR R2 hbl
 replace R3 := hmR R3 hbl
 replace R4 := hmR R4 hbl
 replace CX := hmB CX hbl
 replace CY := hmB CY hbl
 replace RES := hmB RES hbl
 replace ERR := hmB ERR hbl
 replace HW := hmW HW hbl; clear hbl
 clear CX0 CX1 CX2 CY0 CY1 CY2
 have CX0 := CX.out.c0
 have CX1 := CX.out.c1
 have CX2 := CX.out.c2
 have CY0 := CY.out.c0
 have CY1 := CY.out.c1
 have CY2 := CY.out.c2
 have d0 := RES.out.cell 0
 have f0 := RES.out.frozen 0
 have d1 := RES.out.cell 1
 have f1 := RES.out.frozen 1
 have d2 := RES.out.cell 2
 have f2 := RES.out.frozen 2
 have d3 := ERR.out.cell 0
 have f3 := ERR.out.frozen 0
 go_wp2
 exact leave_refused rfl rfl rfl HW.out (by omega) (by omega) (by omega) RES.out ERR.out
end
end
end Go.Proofs.YtmbbdjpnecjleaaGreat
