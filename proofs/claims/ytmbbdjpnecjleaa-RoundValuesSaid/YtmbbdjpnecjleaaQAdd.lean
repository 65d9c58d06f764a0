/-
  rat.add, walked.
  rat.add of what may not be, rat.Add, rat.Sub, walked.
-/
import Derived.Test.YtmbbdjpnecjleaaQC
namespace Go.Proofs.Ytmbbdjpnecjleaa
section
open Go.RowKit

set_option maxRecDepth 100000 in
set_option maxHeartbeats 1000000 in
theorem add_walk {q : Q} {e : Int} (l : Bool) (A B A' B' : Option Addr) (c d c' d' : Nat) (a b : Q) (w : World) (h1 : RdL w A (limbs a.n)) (h2 : RdL w B (limbs a.d)) (h3 : RdL w A' (limbs b.n)) (h4 : RdL w B' (limbs b.d)) (k1 : (limbs a.n).length ≤ c) (k2 : (limbs a.d).length ≤ d) (k3 : (limbs b.n).length ≤ c') (k4 : (limbs b.d).length ≤ d') (t1 : a.n < Top) (t2 : a.d < Top) (t3 : b.n < Top) (t4 : b.d < Top) (ra : QR a) (rb : QR b) (hov : ¬ ((a.n * b.d) < Top ∧ (b.n * a.d) < Top ∧ (a.d * b.d) < Top ∧ (a.n * b.d) + (b.n * a.d) < Top) → q = noQ ∧ e = 2) (hok : (a.n * b.d) < Top → (b.n * a.d) < Top → (a.d * b.d) < Top → (a.n * b.d) + (b.n * a.d) < Top → sumQ a.s (b.s != l) (a.n * b.d) (b.n * a.d) (a.d * b.d) = q ∧ e = 0) :
    Calls Try.prog 63 #[.agg #[.bool a.s, .slice A (limbs a.n).length c, .slice B (limbs a.d).length d], .agg #[.bool b.s, .slice A' (limbs b.n).length c', .slice B' (limbs b.d).length d'], .bool l] w (RetQE q e w) := by
  have R1 := Lib.hid h1; clear h1
  have R2 := Lib.hid h2; clear h2
  have R3 := Lib.hid h3; clear h3
  have R4 := Lib.hid h4; clear h4
  have K := Lib.hid (And.intro k1 (And.intro k2 (And.intro k3 k4))); clear k1 k2 k3 k4
  have T := Lib.hid (And.intro t1 (And.intro t2 (And.intro t3 t4))); clear t1 t2 t3 t4
  have HA := Lib.hid ra; clear ra
  have HB := Lib.hid rb; clear rb
  have HOV := Lib.hid hov; clear hov
  have HOK := Lib.hid hok; clear hok
  obtain ⟨wa, hwa⟩ : ∃ wa, wa = (((w.alloc (.cells #[.bool a.s, .slice A (limbs a.n).length c, .slice B (limbs a.d).length d] 25)).alloc (.cells #[.bool b.s, .slice A' (limbs b.n).length c', .slice B' (limbs b.d).length d'] 25)).alloc (.cells #[.bool false, .slice none 0 0, .slice none 0 0] 25)).alloc (.cells #[.int .i64 0] 28) := ⟨_, rfl⟩
  have hbl : Below w.heap.size w wa := by rw [hwa]; exact bel_alloc (bel_alloc (bel_alloc (bel_alloc (bel_refl _) _) _) _) _
  have CX : Blk wa (w.heap.size) 25 #[.bool a.s, .slice A (limbs a.n).length c, .slice B (limbs a.d).length d] := by
    have hz := Blk.new (w) 25 #[.bool a.s, .slice A (limbs a.n).length c, .slice B (limbs a.d).length d]
    rw [hwa]
    exact (((hz.alloc _).alloc _).alloc _)
  have CY : Blk wa (w.heap.size + 1) 25 #[.bool b.s, .slice A' (limbs b.n).length c', .slice B' (limbs b.d).length d'] := by
    have hz := Blk.new (w.alloc (.cells #[.bool a.s, .slice A (limbs a.n).length c, .slice B (limbs a.d).length d] 25)) 25 #[.bool b.s, .slice A' (limbs b.n).length c', .slice B' (limbs b.d).length d']
    rw [World.size_alloc] at hz
    rw [hwa]
    exact ((hz.alloc _).alloc _)
  have RES : Blk wa (w.heap.size + 2) 25 #[.bool false, .slice none 0 0, .slice none 0 0] := by
    have hz := Blk.new ((w.alloc (.cells #[.bool a.s, .slice A (limbs a.n).length c, .slice B (limbs a.d).length d] 25)).alloc (.cells #[.bool b.s, .slice A' (limbs b.n).length c', .slice B' (limbs b.d).length d'] 25)) 25 #[.bool false, .slice none 0 0, .slice none 0 0]
    rw [World.size_alloc, World.size_alloc] at hz
    rw [hwa]
    exact (hz.alloc _)
  have ERR : Blk wa (w.heap.size + 3) 28 #[.int .i64 0] := by
    have hz := Blk.new (((w.alloc (.cells #[.bool a.s, .slice A (limbs a.n).length c, .slice B (limbs a.d).length d] 25)).alloc (.cells #[.bool b.s, .slice A' (limbs b.n).length c', .slice B' (limbs b.d).length d'] 25)).alloc (.cells #[.bool false, .slice none 0 0, .slice none 0 0] 25)) 28 #[.int .i64 0]
    rw [World.size_alloc, World.size_alloc, World.size_alloc] at hz
    rw [hwa]
    exact hz
  replace R1 := Lib.hid (R1.out.below hbl)
  replace R2 := Lib.hid (R2.out.below hbl)
  replace R3 := Lib.hid (R3.out.below hbl)
  replace R4 := Lib.hid (R4.out.below hbl)
  have HW := Lib.hid hbl; clear hbl
  replace CX := Lib.hid CX
  replace CY := Lib.hid CY
  replace RES := Lib.hid RES
  replace ERR := Lib.hid ERR
  go_enter_defers Try.func63, Try.ntmps63
  go_wp2_with fail
  rw [← hwa]
  clear hwa
  have CX0 : wa.cell? ⟨w.heap.size, 0, none⟩ = some (.bool a.s) := CX.out.cell 0
  have CX1 : wa.cell? ⟨w.heap.size, 1, none⟩ = some (.slice A (limbs a.n).length c) := CX.out.cell 1
  have CX2 : wa.cell? ⟨w.heap.size, 2, none⟩ = some (.slice B (limbs a.d).length d) := CX.out.cell 2
  have CY0 : wa.cell? ⟨w.heap.size + 1, 0, none⟩ = some (.bool b.s) := CY.out.cell 0
  have CY1 : wa.cell? ⟨w.heap.size + 1, 1, none⟩ = some (.slice A' (limbs b.n).length c') := CY.out.cell 1
  have CY2 : wa.cell? ⟨w.heap.size + 1, 2, none⟩ = some (.slice B' (limbs b.d).length d') := CY.out.cell 2
  refine (ratRight_q a A B c d _ R1.out R2.out K.out.1 K.out.2.1 T.out.1 T.out.2.1 HA.out).mono ?_
  rintro e w1 ⟨rfl, hbl⟩
  replace R1 := Lib.hid (R1.out.below hbl)
  replace R2 := Lib.hid (R2.out.below hbl)
  replace R3 := Lib.hid (R3.out.below hbl)
  replace R4 := Lib.hid (R4.out.below hbl)
  replace CX := Lib.hid (CX.out.below hbl CX.out.lt)
  replace CY := Lib.hid (CY.out.below hbl CY.out.lt)
  replace RES := Lib.hid (RES.out.below hbl RES.out.lt)
  replace ERR := Lib.hid (ERR.out.below hbl ERR.out.lt)
  replace HW := Lib.hid (bel_trans HW.out hbl); clear hbl
  clear CX0 CX1 CX2 CY0 CY1 CY2
  have CX0 : w1.cell? ⟨w.heap.size, 0, none⟩ = some (.bool a.s) := CX.out.cell 0
  have CX1 : w1.cell? ⟨w.heap.size, 1, none⟩ = some (.slice A (limbs a.n).length c) := CX.out.cell 1
  have CX2 : w1.cell? ⟨w.heap.size, 2, none⟩ = some (.slice B (limbs a.d).length d) := CX.out.cell 2
  have CY0 : w1.cell? ⟨w.heap.size + 1, 0, none⟩ = some (.bool b.s) := CY.out.cell 0
  have CY1 : w1.cell? ⟨w.heap.size + 1, 1, none⟩ = some (.slice A' (limbs b.n).length c') := CY.out.cell 1
  have CY2 : w1.cell? ⟨w.heap.size + 1, 2, none⟩ = some (.slice B' (limbs b.d).length d') := CY.out.cell 2
  go_wp2_with fail
  refine (ratRight_q b A' B' c' d' _ R3.out R4.out K.out.2.2.1 K.out.2.2.2 T.out.2.2.1 T.out.2.2.2 HB.out).mono ?_
  rintro e w2 ⟨rfl, hbl⟩
  replace R1 := Lib.hid (R1.out.below hbl)
  replace R2 := Lib.hid (R2.out.below hbl)
  replace R3 := Lib.hid (R3.out.below hbl)
  replace R4 := Lib.hid (R4.out.below hbl)
  replace CX := Lib.hid (CX.out.below hbl CX.out.lt)
  replace CY := Lib.hid (CY.out.below hbl CY.out.lt)
  replace RES := Lib.hid (RES.out.below hbl RES.out.lt)
  replace ERR := Lib.hid (ERR.out.below hbl ERR.out.lt)
  replace HW := Lib.hid (bel_trans HW.out hbl); clear hbl
  clear CX0 CX1 CX2 CY0 CY1 CY2
  have CX0 : w2.cell? ⟨w.heap.size, 0, none⟩ = some (.bool a.s) := CX.out.cell 0
  have CX1 : w2.cell? ⟨w.heap.size, 1, none⟩ = some (.slice A (limbs a.n).length c) := CX.out.cell 1
  have CX2 : w2.cell? ⟨w.heap.size, 2, none⟩ = some (.slice B (limbs a.d).length d) := CX.out.cell 2
  have CY0 : w2.cell? ⟨w.heap.size + 1, 0, none⟩ = some (.bool b.s) := CY.out.cell 0
  have CY1 : w2.cell? ⟨w.heap.size + 1, 1, none⟩ = some (.slice A' (limbs b.n).length c') := CY.out.cell 1
  have CY2 : w2.cell? ⟨w.heap.size + 1, 2, none⟩ = some (.slice B' (limbs b.d).length d') := CY.out.cell 2
  go_wp2_with fail
  refine wp_region_typed 27 (TOf [VIs (.pointer (some ⟨w.heap.size, 1, none⟩)),
      VIs (.slice A (limbs a.n).length c),
      VIs (.pointer (some ⟨w.heap.size + 1, 2, none⟩)),
      VIs (.slice B' (limbs b.d).length d'),
      VMul (a.n * b.d),
      VFit (a.n * b.d),
      VIs (.int .i64 (fitC (a.n * b.d))),
      VOk (a.n * b.d),
      VIs (.pointer (some ⟨w.heap.size + 1, 1, none⟩)),
      VIs (.slice A' (limbs b.n).length c'),
      VIs (.pointer (some ⟨w.heap.size, 2, none⟩)),
      VIs (.slice B (limbs a.d).length d),
      VMul (b.n * a.d),
      VFit (b.n * a.d),
      VIs (.int .i64 (fitC (b.n * a.d))),
      VOk (b.n * a.d),
      VIs (.pointer (some ⟨w.heap.size, 2, none⟩)),
      VIs (.slice B (limbs a.d).length d),
      VIs (.pointer (some ⟨w.heap.size + 1, 2, none⟩)),
      VIs (.slice B' (limbs b.d).length d'),
      VMul (a.d * b.d),
      VFit (a.d * b.d),
      VIs (.int .i64 (fitC (a.d * b.d))),
      VOk (a.d * b.d),
      VOk (a.n * b.d),
      VOk (b.n * a.d),
      VOk (a.d * b.d)]) (by kernel_rfl) (by kernel_rfl) (by kernel_rfl) (LiftAll.at_ (.cons (VIs.lift _) (.cons (VIs.lift _) (.cons (VIs.lift _) (.cons (VIs.lift _) (.cons (VMul.lift _) (.cons (VFit.lift _) (.cons (VIs.lift _) (.cons (VOk.lift _) (.cons (VIs.lift _) (.cons (VIs.lift _) (.cons (VIs.lift _) (.cons (VIs.lift _) (.cons (VMul.lift _) (.cons (VFit.lift _) (.cons (VIs.lift _) (.cons (VOk.lift _) (.cons (VIs.lift _) (.cons (VIs.lift _) (.cons (VIs.lift _) (.cons (VIs.lift _) (.cons (VMul.lift _) (.cons (VFit.lift _) (.cons (VIs.lift _) (.cons (VOk.lift _) (.cons (VOk.lift _) (.cons (VOk.lift _) (.cons (VOk.lift _) .nil)))))))))))))))))))))))))))) (steps_all (steps_cons ?_ (steps_cons ?_ (steps_cons ?_ (steps_cons ?_ (steps_cons ?_ (steps_cons ?_ (steps_cons ?_ (steps_cons ?_ (steps_cons ?_ (steps_cons ?_ (steps_cons ?_ (steps_cons ?_ (steps_cons ?_ (steps_cons ?_ (steps_cons ?_ (steps_cons ?_ (steps_cons ?_ (steps_cons ?_ (steps_cons ?_ (steps_cons ?_ (steps_cons ?_ (steps_cons ?_ (steps_cons ?_ (steps_cons ?_ (steps_cons ?_ (steps_cons ?_ (steps_cons ?_ steps_zero)))))))))))))))))))))))))))) ?fin
  · intro a0 w9 K9 hF _ _ hC
    have b9 := hF.base (k := 3) (v := .pointer (some ⟨w.heap.size, 0, none⟩)) (by kernel_rfl) rfl
    clear hF
    go_simp
    exact hC _ _ (bel_refl _) fun _ _ => rfl
  · intro a0 w9 K9 _ hB hK hC
    obtain ⟨v9, e9, z9⟩ := dep hK 0 (j := 0) (k := 20) rfl rfl rfl
    have z9 : v9 = .pointer (some ⟨w.heap.size, 1, none⟩) := z9
    subst z9
    have x9 : w9.cell? ⟨w.heap.size, 1, none⟩ = some (.slice A (limbs a.n).length c) := (CX.out.below hB CX.out.lt).cell 1
    clear hK hB
    go_simp
    exact hC _ _ (bel_refl _) fun _ _ => rfl
  · intro a0 w9 K9 hF _ _ hC
    have b9 := hF.base (k := 4) (v := .pointer (some ⟨w.heap.size + 1, 0, none⟩)) (by kernel_rfl) rfl
    clear hF
    go_simp
    exact hC _ _ (bel_refl _) fun _ _ => rfl
  · intro a0 w9 K9 _ hB hK hC
    obtain ⟨v9, e9, z9⟩ := dep hK 0 (j := 2) (k := 22) rfl rfl rfl
    have z9 : v9 = .pointer (some ⟨w.heap.size + 1, 2, none⟩) := z9
    subst z9
    have x9 : w9.cell? ⟨w.heap.size + 1, 2, none⟩ = some (.slice B' (limbs b.d).length d') := (CY.out.below hB CY.out.lt).cell 2
    clear hK hB
    go_simp
    exact hC _ _ (bel_refl _) fun _ _ => rfl
  · intro a0 w9 K9 _ hB hK hC
    obtain ⟨v8, e8, z8⟩ := dep hK 0 (j := 1) (k := 21) rfl rfl rfl
    obtain ⟨v9, e9, z9⟩ := dep hK 1 (j := 3) (k := 23) rfl rfl rfl
    have z8 : v8 = .slice A (limbs a.n).length c := z8
    have z9 : v9 = .slice B' (limbs b.d).length d' := z9
    subst z8
    subst z9
    clear hK
    have HB9 := Lib.hid hB; clear hB
    go_simp
    refine (mul_num A B' c d' a.n b.d _ (R1.out.below HB9.out) (R4.out.below HB9.out) T.out.1 T.out.2.2.2).mono ?_
    rintro e w7 ⟨u, rfl, hu, hbl⟩
    exact hC _ _ hbl fun _ _ => ⟨u, rfl, hu⟩
  · intro a0 w9 K9 _ _ hK hC
    obtain ⟨v9, e9, z9⟩ := dep hK 0 (j := 4) (k := 24) rfl rfl rfl
    obtain ⟨u9, rfl, r9⟩ : ∃ u, v9 = .tuple #[u, .int .i64 (fitC (a.n * b.d))] ∧ RdN w9 u (fitN (a.n * b.d)) := z9
    clear hK
    have R9 := Lib.hid r9; clear r9
    go_simp
    exact hC _ _ (bel_refl _) fun _ _ => R9.out
  · intro a0 w9 K9 _ _ hK hC
    obtain ⟨v9, e9, z9⟩ := dep hK 0 (j := 4) (k := 24) rfl rfl rfl
    obtain ⟨u9, rfl, r9⟩ : ∃ u, v9 = .tuple #[u, .int .i64 (fitC (a.n * b.d))] ∧ RdN w9 u (fitN (a.n * b.d)) := z9
    clear hK
    have R9 := Lib.hid r9; clear r9
    go_simp
    exact hC _ _ (bel_refl _) fun _ _ => rfl
  · intro a0 w9 K9 hF hB hK hC
    obtain ⟨v8, e8, z8⟩ := dep hK 0 (j := 5) (k := 25) rfl rfl rfl
    obtain ⟨v9, e9, z9⟩ := dep hK 1 (j := 6) (k := 26) rfl rfl rfl
    have z9 : v9 = .int .i64 (fitC (a.n * b.d)) := z9
    have z8 : RdN w9 v8 (fitN (a.n * b.d)) := z8
    subst z9
    clear hK
    have b6 := getD_of (hF.base (k := 6) (v := .pointer (some ⟨w.heap.size + 2, 0, none⟩)) (by kernel_rfl) rfl)
    have b7 := getD_of (hF.base (k := 7) (v := .pointer (some ⟨w.heap.size + 3, 0, none⟩)) (by kernel_rfl) rfl)
    have F9 := Lib.hid (And.intro hF.defers (And.intro b6 b7)); clear hF b6 b7
    have Z8 := Lib.hid z8; clear z8
    have HB9 := Lib.hid hB; clear hB
    by_cases hfit : (a.n * b.d) < Top
    · have Z9 := Lib.hid (And.intro hfit (show RdN w9 v8 (a.n * b.d) by have := Z8.out; rwa [(fit_small hfit).1] at this))
      rw [(fit_small hfit).2] at e9
      clear hfit
      go_simp
      refine (must_bb _ _).mono ?_
      rintro e w7 ⟨rfl, hbl⟩
      exact hC _ _ hbl fun _ _ => ⟨Z9.out.1, Z9.out.2.below hbl⟩
    · obtain ⟨rfl, rfl⟩ := HOV.out fun h => hfit h.1
      rw [(fit_over hfit).2] at e9
      clear hfit
      go_simp
      refine (must_pp _ 2 _ (by decide)).mono ?_
      rintro e w7 ⟨rfl, hbl⟩
      have hb9 := bel_trans HB9.out hbl
      show Leaves _ _ a0.tmps _ a0.defers _ _
      rw [F9.out.1]
      exact leave_caught ⟨rfl, F9.out.2.1, F9.out.2.2, bel_trans HW.out hb9, by omega, by omega, by omega, RES.out.below hb9 RES.out.lt, ERR.out.below hb9 ERR.out.lt⟩
  · intro a0 w9 K9 hF _ _ hC
    have b9 := hF.base (k := 4) (v := .pointer (some ⟨w.heap.size + 1, 0, none⟩)) (by kernel_rfl) rfl
    clear hF
    go_simp
    exact hC _ _ (bel_refl _) fun _ _ => rfl
  · intro a0 w9 K9 _ hB hK hC
    obtain ⟨v9, e9, z9⟩ := dep hK 0 (j := 8) (k := 28) rfl rfl rfl
    have z9 : v9 = .pointer (some ⟨w.heap.size + 1, 1, none⟩) := z9
    subst z9
    have x9 : w9.cell? ⟨w.heap.size + 1, 1, none⟩ = some (.slice A' (limbs b.n).length c') := (CY.out.below hB CY.out.lt).cell 1
    clear hK hB
    go_simp
    exact hC _ _ (bel_refl _) fun _ _ => rfl
  · intro a0 w9 K9 hF _ _ hC
    have b9 := hF.base (k := 3) (v := .pointer (some ⟨w.heap.size, 0, none⟩)) (by kernel_rfl) rfl
    clear hF
    go_simp
    exact hC _ _ (bel_refl _) fun _ _ => rfl
  · intro a0 w9 K9 _ hB hK hC
    obtain ⟨v9, e9, z9⟩ := dep hK 0 (j := 10) (k := 30) rfl rfl rfl
    have z9 : v9 = .pointer (some ⟨w.heap.size, 2, none⟩) := z9
    subst z9
    have x9 : w9.cell? ⟨w.heap.size, 2, none⟩ = some (.slice B (limbs a.d).length d) := (CX.out.below hB CX.out.lt).cell 2
    clear hK hB
    go_simp
    exact hC _ _ (bel_refl _) fun _ _ => rfl
  · intro a0 w9 K9 _ hB hK hC
    obtain ⟨v8, e8, z8⟩ := dep hK 0 (j := 9) (k := 29) rfl rfl rfl
    obtain ⟨v9, e9, z9⟩ := dep hK 1 (j := 11) (k := 31) rfl rfl rfl
    have z8 : v8 = .slice A' (limbs b.n).length c' := z8
    have z9 : v9 = .slice B (limbs a.d).length d := z9
    subst z8
    subst z9
    clear hK
    have HB9 := Lib.hid hB; clear hB
    go_simp
    refine (mul_num A' B c' d b.n a.d _ (R3.out.below HB9.out) (R2.out.below HB9.out) T.out.2.2.1 T.out.2.1).mono ?_
    rintro e w7 ⟨u, rfl, hu, hbl⟩
    exact hC _ _ hbl fun _ _ => ⟨u, rfl, hu⟩
  · intro a0 w9 K9 _ _ hK hC
    obtain ⟨v9, e9, z9⟩ := dep hK 0 (j := 12) (k := 32) rfl rfl rfl
    obtain ⟨u9, rfl, r9⟩ : ∃ u, v9 = .tuple #[u, .int .i64 (fitC (b.n * a.d))] ∧ RdN w9 u (fitN (b.n * a.d)) := z9
    clear hK
    have R9 := Lib.hid r9; clear r9
    go_simp
    exact hC _ _ (bel_refl _) fun _ _ => R9.out
  · intro a0 w9 K9 _ _ hK hC
    obtain ⟨v9, e9, z9⟩ := dep hK 0 (j := 12) (k := 32) rfl rfl rfl
    obtain ⟨u9, rfl, r9⟩ : ∃ u, v9 = .tuple #[u, .int .i64 (fitC (b.n * a.d))] ∧ RdN w9 u (fitN (b.n * a.d)) := z9
    clear hK
    have R9 := Lib.hid r9; clear r9
    go_simp
    exact hC _ _ (bel_refl _) fun _ _ => rfl
  · intro a0 w9 K9 hF hB hK hC
    obtain ⟨v8, e8, z8⟩ := dep hK 0 (j := 13) (k := 33) rfl rfl rfl
    obtain ⟨v9, e9, z9⟩ := dep hK 1 (j := 14) (k := 34) rfl rfl rfl
    have z9 : v9 = .int .i64 (fitC (b.n * a.d)) := z9
    have z8 : RdN w9 v8 (fitN (b.n * a.d)) := z8
    subst z9
    clear hK
    have b6 := getD_of (hF.base (k := 6) (v := .pointer (some ⟨w.heap.size + 2, 0, none⟩)) (by kernel_rfl) rfl)
    have b7 := getD_of (hF.base (k := 7) (v := .pointer (some ⟨w.heap.size + 3, 0, none⟩)) (by kernel_rfl) rfl)
    have F9 := Lib.hid (And.intro hF.defers (And.intro b6 b7)); clear hF b6 b7
    have Z8 := Lib.hid z8; clear z8
    have HB9 := Lib.hid hB; clear hB
    by_cases hfit : (b.n * a.d) < Top
    · have Z9 := Lib.hid (And.intro hfit (show RdN w9 v8 (b.n * a.d) by have := Z8.out; rwa [(fit_small hfit).1] at this))
      rw [(fit_small hfit).2] at e9
      clear hfit
      go_simp
      refine (must_bb _ _).mono ?_
      rintro e w7 ⟨rfl, hbl⟩
      exact hC _ _ hbl fun _ _ => ⟨Z9.out.1, Z9.out.2.below hbl⟩
    · obtain ⟨rfl, rfl⟩ := HOV.out fun h => hfit h.2.1
      rw [(fit_over hfit).2] at e9
      clear hfit
      go_simp
      refine (must_pp _ 2 _ (by decide)).mono ?_
      rintro e w7 ⟨rfl, hbl⟩
      have hb9 := bel_trans HB9.out hbl
      show Leaves _ _ a0.tmps _ a0.defers _ _
      rw [F9.out.1]
      exact leave_caught ⟨rfl, F9.out.2.1, F9.out.2.2, bel_trans HW.out hb9, by omega, by omega, by omega, RES.out.below hb9 RES.out.lt, ERR.out.below hb9 ERR.out.lt⟩
  · intro a0 w9 K9 hF _ _ hC
    have b9 := hF.base (k := 3) (v := .pointer (some ⟨w.heap.size, 0, none⟩)) (by kernel_rfl) rfl
    clear hF
    go_simp
    exact hC _ _ (bel_refl _) fun _ _ => rfl
  · intro a0 w9 K9 _ hB hK hC
    obtain ⟨v9, e9, z9⟩ := dep hK 0 (j := 16) (k := 36) rfl rfl rfl
    have z9 : v9 = .pointer (some ⟨w.heap.size, 2, none⟩) := z9
    subst z9
    have x9 : w9.cell? ⟨w.heap.size, 2, none⟩ = some (.slice B (limbs a.d).length d) := (CX.out.below hB CX.out.lt).cell 2
    clear hK hB
    go_simp
    exact hC _ _ (bel_refl _) fun _ _ => rfl
  · intro a0 w9 K9 hF _ _ hC
    have b9 := hF.base (k := 4) (v := .pointer (some ⟨w.heap.size + 1, 0, none⟩)) (by kernel_rfl) rfl
    clear hF
    go_simp
    exact hC _ _ (bel_refl _) fun _ _ => rfl
  · intro a0 w9 K9 _ hB hK hC
    obtain ⟨v9, e9, z9⟩ := dep hK 0 (j := 18) (k := 38) rfl rfl rfl
    have z9 : v9 = .pointer (some ⟨w.heap.size + 1, 2, none⟩) := z9
    subst z9
    have x9 : w9.cell? ⟨w.heap.size + 1, 2, none⟩ = some (.slice B' (limbs b.d).length d') := (CY.out.below hB CY.out.lt).cell 2
    clear hK hB
    go_simp
    exact hC _ _ (bel_refl _) fun _ _ => rfl
  · intro a0 w9 K9 _ hB hK hC
    obtain ⟨v8, e8, z8⟩ := dep hK 0 (j := 17) (k := 37) rfl rfl rfl
    obtain ⟨v9, e9, z9⟩ := dep hK 1 (j := 19) (k := 39) rfl rfl rfl
    have z8 : v8 = .slice B (limbs a.d).length d := z8
    have z9 : v9 = .slice B' (limbs b.d).length d' := z9
    subst z8
    subst z9
    clear hK
    have HB9 := Lib.hid hB; clear hB
    go_simp
    refine (mul_num B B' d d' a.d b.d _ (R2.out.below HB9.out) (R4.out.below HB9.out) T.out.2.1 T.out.2.2.2).mono ?_
    rintro e w7 ⟨u, rfl, hu, hbl⟩
    exact hC _ _ hbl fun _ _ => ⟨u, rfl, hu⟩
  · intro a0 w9 K9 _ _ hK hC
    obtain ⟨v9, e9, z9⟩ := dep hK 0 (j := 20) (k := 40) rfl rfl rfl
    obtain ⟨u9, rfl, r9⟩ : ∃ u, v9 = .tuple #[u, .int .i64 (fitC (a.d * b.d))] ∧ RdN w9 u (fitN (a.d * b.d)) := z9
    clear hK
    have R9 := Lib.hid r9; clear r9
    go_simp
    exact hC _ _ (bel_refl _) fun _ _ => R9.out
  · intro a0 w9 K9 _ _ hK hC
    obtain ⟨v9, e9, z9⟩ := dep hK 0 (j := 20) (k := 40) rfl rfl rfl
    obtain ⟨u9, rfl, r9⟩ : ∃ u, v9 = .tuple #[u, .int .i64 (fitC (a.d * b.d))] ∧ RdN w9 u (fitN (a.d * b.d)) := z9
    clear hK
    have R9 := Lib.hid r9; clear r9
    go_simp
    exact hC _ _ (bel_refl _) fun _ _ => rfl
  · intro a0 w9 K9 hF hB hK hC
    obtain ⟨v8, e8, z8⟩ := dep hK 0 (j := 21) (k := 41) rfl rfl rfl
    obtain ⟨v9, e9, z9⟩ := dep hK 1 (j := 22) (k := 42) rfl rfl rfl
    have z9 : v9 = .int .i64 (fitC (a.d * b.d)) := z9
    have z8 : RdN w9 v8 (fitN (a.d * b.d)) := z8
    subst z9
    clear hK
    have b6 := getD_of (hF.base (k := 6) (v := .pointer (some ⟨w.heap.size + 2, 0, none⟩)) (by kernel_rfl) rfl)
    have b7 := getD_of (hF.base (k := 7) (v := .pointer (some ⟨w.heap.size + 3, 0, none⟩)) (by kernel_rfl) rfl)
    have F9 := Lib.hid (And.intro hF.defers (And.intro b6 b7)); clear hF b6 b7
    have Z8 := Lib.hid z8; clear z8
    have HB9 := Lib.hid hB; clear hB
    by_cases hfit : (a.d * b.d) < Top
    · have Z9 := Lib.hid (And.intro hfit (show RdN w9 v8 (a.d * b.d) by have := Z8.out; rwa [(fit_small hfit).1] at this))
      rw [(fit_small hfit).2] at e9
      clear hfit
      go_simp
      refine (must_bb _ _).mono ?_
      rintro e w7 ⟨rfl, hbl⟩
      exact hC _ _ hbl fun _ _ => ⟨Z9.out.1, Z9.out.2.below hbl⟩
    · obtain ⟨rfl, rfl⟩ := HOV.out fun h => hfit h.2.2.1
      rw [(fit_over hfit).2] at e9
      clear hfit
      go_simp
      refine (must_pp _ 2 _ (by decide)).mono ?_
      rintro e w7 ⟨rfl, hbl⟩
      have hb9 := bel_trans HB9.out hbl
      show Leaves _ _ a0.tmps _ a0.defers _ _
      rw [F9.out.1]
      exact leave_caught ⟨rfl, F9.out.2.1, F9.out.2.2, bel_trans HW.out hb9, by omega, by omega, by omega, RES.out.below hb9 RES.out.lt, ERR.out.below hb9 ERR.out.lt⟩
  · intro a0 w9 K9 _ _ hK hC
    obtain ⟨v9, e9, z9⟩ := dep hK 0 (j := 7) (k := 27) rfl rfl rfl
    have Z9 := Lib.hid (show (a.n * b.d) < Top ∧ RdN w9 v9 (a.n * b.d) from z9); clear z9 hK
    go_simp
    exact hC _ _ (bel_refl _) fun _ _ => Z9.out
  · intro a0 w9 K9 _ _ hK hC
    obtain ⟨v9, e9, z9⟩ := dep hK 0 (j := 15) (k := 35) rfl rfl rfl
    have Z9 := Lib.hid (show (b.n * a.d) < Top ∧ RdN w9 v9 (b.n * a.d) from z9); clear z9 hK
    go_simp
    exact hC _ _ (bel_refl _) fun _ _ => Z9.out
  · intro a0 w9 K9 _ _ hK hC
    obtain ⟨v9, e9, z9⟩ := dep hK 0 (j := 23) (k := 43) rfl rfl rfl
    have Z9 := Lib.hid (show (a.d * b.d) < Top ∧ RdN w9 v9 (a.d * b.d) from z9); clear z9 hK
    go_simp
    exact hC _ _ (bel_refl _) fun _ _ => Z9.out
  case fin =>
    intro a0 w9 hF hB hK
    have b2 := hF.base (k := 2) (v := .bool l) (by kernel_rfl) rfl
    have b3 := hF.base (k := 3) (v := .pointer (some ⟨w.heap.size, 0, none⟩)) (by kernel_rfl) rfl
    have b4 := hF.base (k := 4) (v := .pointer (some ⟨w.heap.size + 1, 0, none⟩)) (by kernel_rfl) rfl
    have b6 := hF.base (k := 6) (v := .pointer (some ⟨w.heap.size + 2, 0, none⟩)) (by kernel_rfl) rfl
    have b7 := hF.base (k := 7) (v := .pointer (some ⟨w.heap.size + 3, 0, none⟩)) (by kernel_rfl) rfl
    have hsz := hF.size
    have hdf := hF.defers
    clear hF
    obtain ⟨v8, e8, z8⟩ := known hK 24 (k := 8) (by decide) rfl
    obtain ⟨x8, Ax, cx, rfl, hcx, hrx_⟩ := z8
    obtain ⟨v9, e9, z9⟩ := known hK 25 (k := 9) (by decide) rfl
    obtain ⟨x9, Ay, cy, rfl, hcy, hry_⟩ := z9
    obtain ⟨v10, e10, z10⟩ := known hK 26 (k := 10) (by decide) rfl
    obtain ⟨x10, Az, cz, rfl, hcz, hrz_⟩ := z10
    clear hK
    obtain ⟨⟨l0⟩, df⟩ := a0
    have hs0 : l0.length = 54 := hsz
    clear hsz
    replace hdf : df = _ := hdf
    subst hdf
    obtain ⟨u, rfl⟩ := lits_54 hs0
    clear hs0
    have q2 : u 2 = _ := Option.some.inj b2
    clear b2
    have q3 : u 3 = _ := Option.some.inj b3
    clear b3
    have q4 : u 4 = _ := Option.some.inj b4
    clear b4
    have q6 : u 6 = _ := Option.some.inj b6
    clear b6
    have q7 : u 7 = _ := Option.some.inj b7
    clear b7
    have q8 : u 8 = _ := Option.some.inj e8
    clear e8
    have q9 : u 9 = _ := Option.some.inj e9
    clear e9
    have q10 : u 10 = _ := Option.some.inj e10
    clear e10
    rw [q2, q3, q4, q6, q7, q8, q9, q10]
    clear q2 q3 q4 q6 q7 q8 q9 q10
    have hrx := And.intro x8 hrx_; have hry := And.intro x9 hry_; have hrz := And.intro x10 hrz_; clear x8 hrx_ x9 hry_ x10 hrz_
    have HX := Lib.hid hrx; have HY := Lib.hid hry; have HZ := Lib.hid hrz; have HC := Lib.hid (And.intro hcx (And.intro hcy hcz)); clear hrx hry hrz hcx hcy hcz
    refine wpList_nil ?_
    replace HW := Lib.hid (bel_trans HW.out hB)
    replace CX := Lib.hid (CX.out.below hB CX.out.lt)
    replace CY := Lib.hid (CY.out.below hB CY.out.lt)
    replace RES := Lib.hid (RES.out.below hB RES.out.lt)
    replace ERR := Lib.hid (ERR.out.below hB ERR.out.lt)
    clear hB
    clear CX0 CX1 CX2 CY0 CY1 CY2
    have CX0 : w9.cell? ⟨w.heap.size, 0, none⟩ = some (.bool a.s) := CX.out.cell 0
    have CY0 : w9.cell? ⟨w.heap.size + 1, 0, none⟩ = some (.bool b.s) := CY.out.cell 0
    by_cases hfit : (a.n * b.d) + (b.n * a.d) < Top
    · obtain ⟨hq, rfl⟩ := HOK.out HX.out.1 HY.out.1 HZ.out.1 hfit
      have HQ := Lib.hid (And.intro hq hfit); clear hq hfit
      go_wp2_with fail
      refine (sum_any a.s (b.s != l) Ax Ay Az cx cy cz (a.n * b.d) (b.n * a.d) (a.d * b.d) _ HX.out.2 HY.out.2 HZ.out.2 HC.out.1 HC.out.2.1 HC.out.2.2 HX.out.1 HY.out.1 HZ.out.1 (den_ne HA.out.den HB.out.den) HQ.out.2 HQ.out.1).mono ?_
      rintro e w11 ⟨vx, vy, rfl, hx, hy, hbl⟩
      have NX := Lib.hid hx; have NY := Lib.hid hy; clear hx hy
      obtain ⟨E1, m1, rfl, _, _⟩ := NX.out.row
      obtain ⟨E2, m2, rfl, _, _⟩ := NY.out.row
      replace RES := Lib.hid (RES.out.below hbl RES.out.lt)
      replace ERR := Lib.hid (ERR.out.below hbl ERR.out.lt)
      replace HW := Lib.hid (bel_trans HW.out hbl); clear hbl
      clear CX0 CY0
      have d0 := RES.out.cell 0
      have f0 := RES.out.frozen 0
      have d1 := RES.out.cell 1
      have f1 := RES.out.frozen 1
      have d2 := RES.out.cell 2
      have f2 := RES.out.frozen 2
      have d3 := ERR.out.cell 0
      have f3 := ERR.out.frozen 0
      go_wp2
      exact leave_stored rfl rfl rfl HW.out (by omega) (by omega) (by omega) RES.out ERR.out NX.out NY.out
    · obtain ⟨rfl, rfl⟩ := HOV.out fun h => hfit h.2.2.2
      have HQ := Lib.hid hfit; clear hfit
      go_wp2_with fail
      refine (sum_over a.s (b.s != l) Ax Ay _ cx cy (a.n * b.d) (b.n * a.d) _ HX.out.2 HY.out.2 HX.out.1 HY.out.1 HQ.out).mono ?_
      rintro e w11 ⟨rfl, hbl⟩
      exact leave_caught ⟨rfl, rfl, rfl, bel_trans HW.out hbl, by omega, by omega, by omega, RES.out.below hbl RES.out.lt, ERR.out.below hbl ERR.out.lt⟩
end
section
open Go.RowKit

set_option maxRecDepth 100000 in
set_option maxHeartbeats 1000000 in
theorem add_bad_a (l : Bool) (s s' : Bool) (A B A' B' : Option Addr) (c d c' d' : Nat) (xs ys xs' ys' : List Nat) (w : World) (h1 : RdL w A xs) (h2 : RdL w B ys) (m1 : Lim xs) (m2 : Lim ys) (l1 : xs.length ≤ 18) (l2 : ys.length ≤ 18) (k1 : xs.length ≤ c) (k2 : ys.length ≤ d) (hr : rightB s xs ys = false) :
    Calls Try.prog 63 #[.agg #[.bool s, .slice A xs.length c, .slice B ys.length d], .agg #[.bool s', .slice A' xs'.length c', .slice B' ys'.length d'], .bool l] w (RetQE noQ 1 w) := by
  have R1 := Lib.hid h1; clear h1
  have R2 := Lib.hid h2; clear h2
  have K := Lib.hid (And.intro k1 k2); clear k1 k2
  have M := Lib.hid (And.intro m1 m2); clear m1 m2
  have HR := Lib.hid hr; clear hr
  obtain ⟨wa, hwa⟩ : ∃ wa, wa = (((w.alloc (.cells #[.bool s, .slice A xs.length c, .slice B ys.length d] 25)).alloc (.cells #[.bool s', .slice A' xs'.length c', .slice B' ys'.length d'] 25)).alloc (.cells #[.bool false, .slice none 0 0, .slice none 0 0] 25)).alloc (.cells #[.int .i64 0] 28) := ⟨_, rfl⟩
  have hbl : Below w.heap.size w wa := by rw [hwa]; exact bel_alloc (bel_alloc (bel_alloc (bel_alloc (bel_refl _) _) _) _) _
  have CX : Blk wa (w.heap.size) 25 #[.bool s, .slice A xs.length c, .slice B ys.length d] := by
    have hz := Blk.new (w) 25 #[.bool s, .slice A xs.length c, .slice B ys.length d]
    rw [hwa]
    exact (((hz.alloc _).alloc _).alloc _)
  have CY : Blk wa (w.heap.size + 1) 25 #[.bool s', .slice A' xs'.length c', .slice B' ys'.length d'] := by
    have hz := Blk.new (w.alloc (.cells #[.bool s, .slice A xs.length c, .slice B ys.length d] 25)) 25 #[.bool s', .slice A' xs'.length c', .slice B' ys'.length d']
    rw [World.size_alloc] at hz
    rw [hwa]
    exact ((hz.alloc _).alloc _)
  have RES : Blk wa (w.heap.size + 2) 25 #[.bool false, .slice none 0 0, .slice none 0 0] := by
    have hz := Blk.new ((w.alloc (.cells #[.bool s, .slice A xs.length c, .slice B ys.length d] 25)).alloc (.cells #[.bool s', .slice A' xs'.length c', .slice B' ys'.length d'] 25)) 25 #[.bool false, .slice none 0 0, .slice none 0 0]
    rw [World.size_alloc, World.size_alloc] at hz
    rw [hwa]
    exact (hz.alloc _)
  have ERR : Blk wa (w.heap.size + 3) 28 #[.int .i64 0] := by
    have hz := Blk.new (((w.alloc (.cells #[.bool s, .slice A xs.length c, .slice B ys.length d] 25)).alloc (.cells #[.bool s', .slice A' xs'.length c', .slice B' ys'.length d'] 25)).alloc (.cells #[.bool false, .slice none 0 0, .slice none 0 0] 25)) 28 #[.int .i64 0]
    rw [World.size_alloc, World.size_alloc, World.size_alloc] at hz
    rw [hwa]
    exact hz
  replace R1 := Lib.hid (R1.out.below hbl)
  replace R2 := Lib.hid (R2.out.below hbl)
  have HW := Lib.hid hbl; clear hbl
  replace CX := Lib.hid CX
  replace CY := Lib.hid CY
  replace RES := Lib.hid RES
  replace ERR := Lib.hid ERR
  go_enter_defers Try.func63, Try.ntmps63
  go_wp2_with fail
  rw [← hwa]
  clear hwa
  have CX0 : wa.cell? ⟨w.heap.size, 0, none⟩ = some (.bool s) := CX.out.cell 0
  have CX1 : wa.cell? ⟨w.heap.size, 1, none⟩ = some (.slice A xs.length c) := CX.out.cell 1
  have CX2 : wa.cell? ⟨w.heap.size, 2, none⟩ = some (.slice B ys.length d) := CX.out.cell 2
  have CY0 : wa.cell? ⟨w.heap.size + 1, 0, none⟩ = some (.bool s') := CY.out.cell 0
  have CY1 : wa.cell? ⟨w.heap.size + 1, 1, none⟩ = some (.slice A' xs'.length c') := CY.out.cell 1
  have CY2 : wa.cell? ⟨w.heap.size + 1, 2, none⟩ = some (.slice B' ys'.length d') := CY.out.cell 2
  refine (ratRight_any s A B c d xs ys _ R1.out R2.out M.out.1 M.out.2 l1 l2 K.out.1 K.out.2).mono ?_
  rintro e w1 ⟨rfl, hbl⟩
  replace R1 := Lib.hid (R1.out.below hbl)
  replace R2 := Lib.hid (R2.out.below hbl)
  replace CX := Lib.hid (CX.out.below hbl CX.out.lt)
  replace CY := Lib.hid (CY.out.below hbl CY.out.lt)
  replace RES := Lib.hid (RES.out.below hbl RES.out.lt)
  replace ERR := Lib.hid (ERR.out.below hbl ERR.out.lt)
  replace HW := Lib.hid (bel_trans HW.out hbl); clear hbl
  clear CX0 CX1 CX2 CY0 CY1 CY2
  have CX0 : w1.cell? ⟨w.heap.size, 0, none⟩ = some (.bool s) := CX.out.cell 0
  have CX1 : w1.cell? ⟨w.heap.size, 1, none⟩ = some (.slice A xs.length c) := CX.out.cell 1
  have CX2 : w1.cell? ⟨w.heap.size, 2, none⟩ = some (.slice B ys.length d) := CX.out.cell 2
  have CY0 : w1.cell? ⟨w.heap.size + 1, 0, none⟩ = some (.bool s') := CY.out.cell 0
  have CY1 : w1.cell? ⟨w.heap.size + 1, 1, none⟩ = some (.slice A' xs'.length c') := CY.out.cell 1
  have CY2 : w1.cell? ⟨w.heap.size + 1, 2, none⟩ = some (.slice B' ys'.length d') := CY.out.cell 2
  rw [HR.out]
  have d0 := RES.out.cell 0
  have f0 := RES.out.frozen 0
  have d1 := RES.out.cell 1
  have f1 := RES.out.frozen 1
  have d2 := RES.out.cell 2
  have f2 := RES.out.frozen 2
  have d3 := ERR.out.cell 0
  have f3 := ERR.out.frozen 0
  go_wp2
  exact leave_refused rfl rfl rfl HW.out (by omega) (by omega) (by omega) RES.out ERR.out

set_option maxRecDepth 100000 in
set_option maxHeartbeats 1000000 in
theorem add_bad_b (l : Bool) (s s' : Bool) (A B A' B' : Option Addr) (c d c' d' : Nat) (xs ys xs' ys' : List Nat) (w : World) (h1 : RdL w A xs) (h2 : RdL w B ys) (h3 : RdL w A' xs') (h4 : RdL w B' ys') (m1 : Lim xs) (m2 : Lim ys) (m3 : Lim xs') (m4 : Lim ys') (l1 : xs.length ≤ 18) (l2 : ys.length ≤ 18) (l3 : xs'.length ≤ 18) (l4 : ys'.length ≤ 18) (k1 : xs.length ≤ c) (k2 : ys.length ≤ d) (k3 : xs'.length ≤ c') (k4 : ys'.length ≤ d') (hr : rightB s xs ys = true) (hr2 : rightB s' xs' ys' = false) :
    Calls Try.prog 63 #[.agg #[.bool s, .slice A xs.length c, .slice B ys.length d], .agg #[.bool s', .slice A' xs'.length c', .slice B' ys'.length d'], .bool l] w (RetQE noQ 1 w) := by
  have R1 := Lib.hid h1; clear h1
  have R2 := Lib.hid h2; clear h2
  have R3 := Lib.hid h3; clear h3
  have R4 := Lib.hid h4; clear h4
  have K := Lib.hid (And.intro k1 (And.intro k2 (And.intro k3 k4))); clear k1 k2 k3 k4
  have M := Lib.hid (And.intro m1 (And.intro m2 (And.intro m3 m4))); clear m1 m2 m3 m4
  have HR := Lib.hid (And.intro hr hr2); clear hr hr2
  obtain ⟨wa, hwa⟩ : ∃ wa, wa = (((w.alloc (.cells #[.bool s, .slice A xs.length c, .slice B ys.length d] 25)).alloc (.cells #[.bool s', .slice A' xs'.length c', .slice B' ys'.length d'] 25)).alloc (.cells #[.bool false, .slice none 0 0, .slice none 0 0] 25)).alloc (.cells #[.int .i64 0] 28) := ⟨_, rfl⟩
  have hbl : Below w.heap.size w wa := by rw [hwa]; exact bel_alloc (bel_alloc (bel_alloc (bel_alloc (bel_refl _) _) _) _) _
  have CX : Blk wa (w.heap.size) 25 #[.bool s, .slice A xs.length c, .slice B ys.length d] := by
    have hz := Blk.new (w) 25 #[.bool s, .slice A xs.length c, .slice B ys.length d]
    rw [hwa]
    exact (((hz.alloc _).alloc _).alloc _)
  have CY : Blk wa (w.heap.size + 1) 25 #[.bool s', .slice A' xs'.length c', .slice B' ys'.length d'] := by
    have hz := Blk.new (w.alloc (.cells #[.bool s, .slice A xs.length c, .slice B ys.length d] 25)) 25 #[.bool s', .slice A' xs'.length c', .slice B' ys'.length d']
    rw [World.size_alloc] at hz
    rw [hwa]
    exact ((hz.alloc _).alloc _)
  have RES : Blk wa (w.heap.size + 2) 25 #[.bool false, .slice none 0 0, .slice none 0 0] := by
    have hz := Blk.new ((w.alloc (.cells #[.bool s, .slice A xs.length c, .slice B ys.length d] 25)).alloc (.cells #[.bool s', .slice A' xs'.length c', .slice B' ys'.length d'] 25)) 25 #[.bool false, .slice none 0 0, .slice none 0 0]
    rw [World.size_alloc, World.size_alloc] at hz
    rw [hwa]
    exact (hz.alloc _)
  have ERR : Blk wa (w.heap.size + 3) 28 #[.int .i64 0] := by
    have hz := Blk.new (((w.alloc (.cells #[.bool s, .slice A xs.length c, .slice B ys.length d] 25)).alloc (.cells #[.bool s', .slice A' xs'.length c', .slice B' ys'.length d'] 25)).alloc (.cells #[.bool false, .slice none 0 0, .slice none 0 0] 25)) 28 #[.int .i64 0]
    rw [World.size_alloc, World.size_alloc, World.size_alloc] at hz
    rw [hwa]
    exact hz
  replace R1 := Lib.hid (R1.out.below hbl)
  replace R2 := Lib.hid (R2.out.below hbl)
  replace R3 := Lib.hid (R3.out.below hbl)
  replace R4 := Lib.hid (R4.out.below hbl)
  have HW := Lib.hid hbl; clear hbl
  replace CX := Lib.hid CX
  replace CY := Lib.hid CY
  replace RES := Lib.hid RES
  replace ERR := Lib.hid ERR
  go_enter_defers Try.func63, Try.ntmps63
  go_wp2_with fail
  rw [← hwa]
  clear hwa
  have CX0 : wa.cell? ⟨w.heap.size, 0, none⟩ = some (.bool s) := CX.out.cell 0
  have CX1 : wa.cell? ⟨w.heap.size, 1, none⟩ = some (.slice A xs.length c) := CX.out.cell 1
  have CX2 : wa.cell? ⟨w.heap.size, 2, none⟩ = some (.slice B ys.length d) := CX.out.cell 2
  have CY0 : wa.cell? ⟨w.heap.size + 1, 0, none⟩ = some (.bool s') := CY.out.cell 0
  have CY1 : wa.cell? ⟨w.heap.size + 1, 1, none⟩ = some (.slice A' xs'.length c') := CY.out.cell 1
  have CY2 : wa.cell? ⟨w.heap.size + 1, 2, none⟩ = some (.slice B' ys'.length d') := CY.out.cell 2
  refine (ratRight_any s A B c d xs ys _ R1.out R2.out M.out.1 M.out.2.1 l1 l2 K.out.1 K.out.2.1).mono ?_
  rintro e w1 ⟨rfl, hbl⟩
  replace R1 := Lib.hid (R1.out.below hbl)
  replace R2 := Lib.hid (R2.out.below hbl)
  replace R3 := Lib.hid (R3.out.below hbl)
  replace R4 := Lib.hid (R4.out.below hbl)
  replace CX := Lib.hid (CX.out.below hbl CX.out.lt)
  replace CY := Lib.hid (CY.out.below hbl CY.out.lt)
  replace RES := Lib.hid (RES.out.below hbl RES.out.lt)
  replace ERR := Lib.hid (ERR.out.below hbl ERR.out.lt)
  replace HW := Lib.hid (bel_trans HW.out hbl); clear hbl
  clear CX0 CX1 CX2 CY0 CY1 CY2
  have CX0 : w1.cell? ⟨w.heap.size, 0, none⟩ = some (.bool s) := CX.out.cell 0
  have CX1 : w1.cell? ⟨w.heap.size, 1, none⟩ = some (.slice A xs.length c) := CX.out.cell 1
  have CX2 : w1.cell? ⟨w.heap.size, 2, none⟩ = some (.slice B ys.length d) := CX.out.cell 2
  have CY0 : w1.cell? ⟨w.heap.size + 1, 0, none⟩ = some (.bool s') := CY.out.cell 0
  have CY1 : w1.cell? ⟨w.heap.size + 1, 1, none⟩ = some (.slice A' xs'.length c') := CY.out.cell 1
  have CY2 : w1.cell? ⟨w.heap.size + 1, 2, none⟩ = some (.slice B' ys'.length d') := CY.out.cell 2
  rw [HR.out.1]
  go_wp2_with fail
  refine (ratRight_any s' A' B' c' d' xs' ys' _ R3.out R4.out M.out.2.2.1 M.out.2.2.2 l3 l4 K.out.2.2.1 K.out.2.2.2).mono ?_
  rintro e w2 ⟨rfl, hbl⟩
  replace R1 := Lib.hid (R1.out.below hbl)
  replace R2 := Lib.hid (R2.out.below hbl)
  replace R3 := Lib.hid (R3.out.below hbl)
  replace R4 := Lib.hid (R4.out.below hbl)
  replace CX := Lib.hid (CX.out.below hbl CX.out.lt)
  replace CY := Lib.hid (CY.out.below hbl CY.out.lt)
  replace RES := Lib.hid (RES.out.below hbl RES.out.lt)
  replace ERR := Lib.hid (ERR.out.below hbl ERR.out.lt)
  replace HW := Lib.hid (bel_trans HW.out hbl); clear hbl
  clear CX0 CX1 CX2 CY0 CY1 CY2
  have CX0 : w2.cell? ⟨w.heap.size, 0, none⟩ = some (.bool s) := CX.out.cell 0
  have CX1 : w2.cell? ⟨w.heap.size, 1, none⟩ = some (.slice A xs.length c) := CX.out.cell 1
  have CX2 : w2.cell? ⟨w.heap.size, 2, none⟩ = some (.slice B ys.length d) := CX.out.cell 2
  have CY0 : w2.cell? ⟨w.heap.size + 1, 0, none⟩ = some (.bool s') := CY.out.cell 0
  have CY1 : w2.cell? ⟨w.heap.size + 1, 1, none⟩ = some (.slice A' xs'.length c') := CY.out.cell 1
  have CY2 : w2.cell? ⟨w.heap.size + 1, 2, none⟩ = some (.slice B' ys'.length d') := CY.out.cell 2
  rw [HR.out.2]
  have d0 := RES.out.cell 0
  have f0 := RES.out.frozen 0
  have d1 := RES.out.cell 1
  have f1 := RES.out.frozen 1
  have d2 := RES.out.cell 2
  have f2 := RES.out.frozen 2
  have d3 := ERR.out.cell 0
  have f3 := ERR.out.frozen 0
  go_wp2
  exact leave_refused rfl rfl rfl HW.out (by omega) (by omega) (by omega) RES.out ERR.out

theorem add_bad (l : Bool) (s s' : Bool) (A B A' B' : Option Addr) (c d c' d' : Nat) (xs ys xs' ys' : List Nat) (w : World) (h1 : RdL w A xs) (h2 : RdL w B ys) (h3 : RdL w A' xs') (h4 : RdL w B' ys') (m1 : Lim xs) (m2 : Lim ys) (m3 : Lim xs') (m4 : Lim ys') (l1 : xs.length ≤ 18) (l2 : ys.length ≤ 18) (l3 : xs'.length ≤ 18) (l4 : ys'.length ≤ 18) (k1 : xs.length ≤ c) (k2 : ys.length ≤ d) (k3 : xs'.length ≤ c') (k4 : ys'.length ≤ d') (hr : (rightB s xs ys && rightB s' xs' ys') = false) :
    Calls Try.prog 63 #[.agg #[.bool s, .slice A xs.length c, .slice B ys.length d], .agg #[.bool s', .slice A' xs'.length c', .slice B' ys'.length d'], .bool l] w (RetQE noQ 1 w) := by
  cases h : rightB s xs ys
  · exact add_bad_a l s s' A B A' B' c d c' d' xs ys xs' ys' w h1 h2 m1 m2 l1 l2 k1 k2 h
  · rw [h, Bool.true_and] at hr
    exact add_bad_b l s s' A B A' B' c d c' d' xs ys xs' ys' w h1 h2 h3 h4 m1 m2 m3 m4 l1 l2 l3 l4 k1 k2 k3 k4 h hr
set_option maxRecDepth 100000 in
set_option maxHeartbeats 1000000 in
theorem add_of {q : Q} {e : Int} (s s' : Bool) (A B A' B' : Option Addr) (m n m' n' c d c' d' : Nat) (w : World) (hc : ∀ w1, Below w.heap.size w w1 → Calls Try.prog 63 #[.agg #[.bool s, .slice A m c, .slice B n d], .agg #[.bool s', .slice A' m' c', .slice B' n' d'], .bool false] w1 (RetQE q e w1)) :
    Calls Try.prog 32 #[.agg #[.bool s, .slice A m c, .slice B n d], .agg #[.bool s', .slice A' m' c', .slice B' n' d']] w (RetQE q e w) := by
  have HC := Lib.hid hc; clear hc
  obtain ⟨wa, hwa⟩ : ∃ wa, wa = ((w.alloc (.cells #[.bool s, .slice A m c, .slice B n d] 25)).alloc (.cells #[.bool s', .slice A' m' c', .slice B' n' d'] 25)).alloc (.cells #[.bool false, .slice none 0 0, .slice none 0 0] 25) := ⟨_, rfl⟩
  have hbl : Below w.heap.size w wa := by rw [hwa]; exact bel_alloc (bel_alloc (bel_alloc (bel_refl _) _) _) _
  have CX : Blk wa (w.heap.size) 25 #[.bool s, .slice A m c, .slice B n d] := by
    have hz := Blk.new (w) 25 #[.bool s, .slice A m c, .slice B n d]
    rw [hwa]
    exact ((hz.alloc _).alloc _)
  have CY : Blk wa (w.heap.size + 1) 25 #[.bool s', .slice A' m' c', .slice B' n' d'] := by
    have hz := Blk.new (w.alloc (.cells #[.bool s, .slice A m c, .slice B n d] 25)) 25 #[.bool s', .slice A' m' c', .slice B' n' d']
    rw [World.size_alloc] at hz
    rw [hwa]
    exact (hz.alloc _)
  have RES : Blk wa (w.heap.size + 2) 25 #[.bool false, .slice none 0 0, .slice none 0 0] := by
    have hz := Blk.new ((w.alloc (.cells #[.bool s, .slice A m c, .slice B n d] 25)).alloc (.cells #[.bool s', .slice A' m' c', .slice B' n' d'] 25)) 25 #[.bool false, .slice none 0 0, .slice none 0 0]
    rw [World.size_alloc, World.size_alloc] at hz
    rw [hwa]
    exact hz
  have HW := Lib.hid hbl; clear hbl
  replace CX := Lib.hid CX
  replace CY := Lib.hid CY
  replace RES := Lib.hid RES
  go_enter Try.func32, Try.ntmps32
  go_wp2_with fail
  rw [← hwa]
  clear hwa
  have CX0 : wa.cell? ⟨w.heap.size, 0, none⟩ = some (.bool s) := CX.out.cell 0
  have CX1 : wa.cell? ⟨w.heap.size, 1, none⟩ = some (.slice A m c) := CX.out.cell 1
  have CX2 : wa.cell? ⟨w.heap.size, 2, none⟩ = some (.slice B n d) := CX.out.cell 2
  have CY0 : wa.cell? ⟨w.heap.size + 1, 0, none⟩ = some (.bool s') := CY.out.cell 0
  have CY1 : wa.cell? ⟨w.heap.size + 1, 1, none⟩ = some (.slice A' m' c') := CY.out.cell 1
  have CY2 : wa.cell? ⟨w.heap.size + 1, 2, none⟩ = some (.slice B' n' d') := CY.out.cell 2
  refine (HC.out _ HW.out).mono ?_
  rintro e w1 ⟨vx, vy, rfl, hnx, hny, hbl⟩
  replace CX := Lib.hid (CX.out.below hbl CX.out.lt)
  replace CY := Lib.hid (CY.out.below hbl CY.out.lt)
  replace RES := Lib.hid (RES.out.below hbl RES.out.lt)
  replace HW := Lib.hid (bel_trans HW.out hbl); clear hbl
  clear CX0 CX1 CX2 CY0 CY1 CY2
  have CX0 : w1.cell? ⟨w.heap.size, 0, none⟩ = some (.bool s) := CX.out.cell 0
  have CX1 : w1.cell? ⟨w.heap.size, 1, none⟩ = some (.slice A m c) := CX.out.cell 1
  have CX2 : w1.cell? ⟨w.heap.size, 2, none⟩ = some (.slice B n d) := CX.out.cell 2
  have CY0 : w1.cell? ⟨w.heap.size + 1, 0, none⟩ = some (.bool s') := CY.out.cell 0
  have CY1 : w1.cell? ⟨w.heap.size + 1, 1, none⟩ = some (.slice A' m' c') := CY.out.cell 1
  have CY2 : w1.cell? ⟨w.heap.size + 1, 2, none⟩ = some (.slice B' n' d') := CY.out.cell 2
  have HNx := Lib.hid hnx; clear hnx
  obtain ⟨Ax, cx, rfl, hcx, hrx⟩ := HNx.out.row
  have Rx := Lib.hid hrx; have HCx := Lib.hid hcx; clear hrx hcx
  have HNy := Lib.hid hny; clear hny
  obtain ⟨Ay, cy, rfl, hcy, hry⟩ := HNy.out.row
  have Ry := Lib.hid hry; have HCy := Lib.hid hcy; clear hry hcy
  have d0 : w1.cell? ⟨w.heap.size + 2, 0, none⟩ = some (.bool false) := RES.out.cell 0
  have f0 : w1.frozen? ⟨w.heap.size + 2, 0, none⟩ = false := RES.out.frozen 0
  have d1 : w1.cell? ⟨w.heap.size + 2, 1, none⟩ = some (.slice none 0 0) := RES.out.cell 1
  have f1 : w1.frozen? ⟨w.heap.size + 2, 1, none⟩ = false := RES.out.frozen 1
  have d2 : w1.cell? ⟨w.heap.size + 2, 2, none⟩ = some (.slice none 0 0) := RES.out.cell 2
  have f2 : w1.frozen? ⟨w.heap.size + 2, 2, none⟩ = false := RES.out.frozen 2
  have D := Lib.hid (And.intro (RES.out.put3 (.bool q.s) (.slice Ax (limbs q.n).length cx) (.slice Ay (limbs q.d).length cy)) (bel_set3 (g := w.heap.size + 2) HW.out (by omega) (.bool q.s) (.slice Ax (limbs q.n).length cx) (.slice Ay (limbs q.d).length cy)))
  have N0 := Lib.hid (RdN.set3 RES.out (HNx.out) (.bool q.s) (.slice Ax (limbs q.n).length cx) (.slice Ay (limbs q.d).length cy))
  have N1 := Lib.hid (RdN.set3 RES.out (HNy.out) (.bool q.s) (.slice Ax (limbs q.n).length cx) (.slice Ay (limbs q.d).length cy))
  go_wp2
  refine bodyPost_ret (v := .tuple #[.agg #[.bool q.s, .slice Ax (limbs q.n).length cx, .slice Ay (limbs q.d).length cy], .int .i64 e]) ?hr rfl ?hR
  case hR => exact ⟨_, _, rfl, N0.out, N1.out, D.out.2⟩
  case hr => exact results_row_tmp rfl _ _ (w.heap.size + 2) 25 _ (0, 0) _ _ rfl rfl D.out.1 Try.underlying25 rfl (by kernel_rfl)

set_option maxRecDepth 100000 in
set_option maxHeartbeats 1000000 in
theorem sub_of {q : Q} {e : Int} (s s' : Bool) (A B A' B' : Option Addr) (m n m' n' c d c' d' : Nat) (w : World) (hc : ∀ w1, Below w.heap.size w w1 → Calls Try.prog 63 #[.agg #[.bool s, .slice A m c, .slice B n d], .agg #[.bool s', .slice A' m' c', .slice B' n' d'], .bool true] w1 (RetQE q e w1)) :
    Calls Try.prog 33 #[.agg #[.bool s, .slice A m c, .slice B n d], .agg #[.bool s', .slice A' m' c', .slice B' n' d']] w (RetQE q e w) := by
  have HC := Lib.hid hc; clear hc
  obtain ⟨wa, hwa⟩ : ∃ wa, wa = ((w.alloc (.cells #[.bool s, .slice A m c, .slice B n d] 25)).alloc (.cells #[.bool s', .slice A' m' c', .slice B' n' d'] 25)).alloc (.cells #[.bool false, .slice none 0 0, .slice none 0 0] 25) := ⟨_, rfl⟩
  have hbl : Below w.heap.size w wa := by rw [hwa]; exact bel_alloc (bel_alloc (bel_alloc (bel_refl _) _) _) _
  have CX : Blk wa (w.heap.size) 25 #[.bool s, .slice A m c, .slice B n d] := by
    have hz := Blk.new (w) 25 #[.bool s, .slice A m c, .slice B n d]
    rw [hwa]
    exact ((hz.alloc _).alloc _)
  have CY : Blk wa (w.heap.size + 1) 25 #[.bool s', .slice A' m' c', .slice B' n' d'] := by
    have hz := Blk.new (w.alloc (.cells #[.bool s, .slice A m c, .slice B n d] 25)) 25 #[.bool s', .slice A' m' c', .slice B' n' d']
    rw [World.size_alloc] at hz
    rw [hwa]
    exact (hz.alloc _)
  have RES : Blk wa (w.heap.size + 2) 25 #[.bool false, .slice none 0 0, .slice none 0 0] := by
    have hz := Blk.new ((w.alloc (.cells #[.bool s, .slice A m c, .slice B n d] 25)).alloc (.cells #[.bool s', .slice A' m' c', .slice B' n' d'] 25)) 25 #[.bool false, .slice none 0 0, .slice none 0 0]
    rw [World.size_alloc, World.size_alloc] at hz
    rw [hwa]
    exact hz
  have HW := Lib.hid hbl; clear hbl
  replace CX := Lib.hid CX
  replace CY := Lib.hid CY
  replace RES := Lib.hid RES
  go_enter Try.func33, Try.ntmps33
  go_wp2_with fail
  rw [← hwa]
  clear hwa
  have CX0 : wa.cell? ⟨w.heap.size, 0, none⟩ = some (.bool s) := CX.out.cell 0
  have CX1 : wa.cell? ⟨w.heap.size, 1, none⟩ = some (.slice A m c) := CX.out.cell 1
  have CX2 : wa.cell? ⟨w.heap.size, 2, none⟩ = some (.slice B n d) := CX.out.cell 2
  have CY0 : wa.cell? ⟨w.heap.size + 1, 0, none⟩ = some (.bool s') := CY.out.cell 0
  have CY1 : wa.cell? ⟨w.heap.size + 1, 1, none⟩ = some (.slice A' m' c') := CY.out.cell 1
  have CY2 : wa.cell? ⟨w.heap.size + 1, 2, none⟩ = some (.slice B' n' d') := CY.out.cell 2
  refine (HC.out _ HW.out).mono ?_
  rintro e w1 ⟨vx, vy, rfl, hnx, hny, hbl⟩
  replace CX := Lib.hid (CX.out.below hbl CX.out.lt)
  replace CY := Lib.hid (CY.out.below hbl CY.out.lt)
  replace RES := Lib.hid (RES.out.below hbl RES.out.lt)
  replace HW := Lib.hid (bel_trans HW.out hbl); clear hbl
  clear CX0 CX1 CX2 CY0 CY1 CY2
  have CX0 : w1.cell? ⟨w.heap.size, 0, none⟩ = some (.bool s) := CX.out.cell 0
  have CX1 : w1.cell? ⟨w.heap.size, 1, none⟩ = some (.slice A m c) := CX.out.cell 1
  have CX2 : w1.cell? ⟨w.heap.size, 2, none⟩ = some (.slice B n d) := CX.out.cell 2
  have CY0 : w1.cell? ⟨w.heap.size + 1, 0, none⟩ = some (.bool s') := CY.out.cell 0
  have CY1 : w1.cell? ⟨w.heap.size + 1, 1, none⟩ = some (.slice A' m' c') := CY.out.cell 1
  have CY2 : w1.cell? ⟨w.heap.size + 1, 2, none⟩ = some (.slice B' n' d') := CY.out.cell 2
  have HNx := Lib.hid hnx; clear hnx
  obtain ⟨Ax, cx, rfl, hcx, hrx⟩ := HNx.out.row
  have Rx := Lib.hid hrx; have HCx := Lib.hid hcx; clear hrx hcx
  have HNy := Lib.hid hny; clear hny
  obtain ⟨Ay, cy, rfl, hcy, hry⟩ := HNy.out.row
  have Ry := Lib.hid hry; have HCy := Lib.hid hcy; clear hry hcy
  have d0 : w1.cell? ⟨w.heap.size + 2, 0, none⟩ = some (.bool false) := RES.out.cell 0
  have f0 : w1.frozen? ⟨w.heap.size + 2, 0, none⟩ = false := RES.out.frozen 0
  have d1 : w1.cell? ⟨w.heap.size + 2, 1, none⟩ = some (.slice none 0 0) := RES.out.cell 1
  have f1 : w1.frozen? ⟨w.heap.size + 2, 1, none⟩ = false := RES.out.frozen 1
  have d2 : w1.cell? ⟨w.heap.size + 2, 2, none⟩ = some (.slice none 0 0) := RES.out.cell 2
  have f2 : w1.frozen? ⟨w.heap.size + 2, 2, none⟩ = false := RES.out.frozen 2
  have D := Lib.hid (And.intro (RES.out.put3 (.bool q.s) (.slice Ax (limbs q.n).length cx) (.slice Ay (limbs q.d).length cy)) (bel_set3 (g := w.heap.size + 2) HW.out (by omega) (.bool q.s) (.slice Ax (limbs q.n).length cx) (.slice Ay (limbs q.d).length cy)))
  have N0 := Lib.hid (RdN.set3 RES.out (HNx.out) (.bool q.s) (.slice Ax (limbs q.n).length cx) (.slice Ay (limbs q.d).length cy))
  have N1 := Lib.hid (RdN.set3 RES.out (HNy.out) (.bool q.s) (.slice Ax (limbs q.n).length cx) (.slice Ay (limbs q.d).length cy))
  go_wp2
  refine bodyPost_ret (v := .tuple #[.agg #[.bool q.s, .slice Ax (limbs q.n).length cx, .slice Ay (limbs q.d).length cy], .int .i64 e]) ?hr rfl ?hR
  case hR => exact ⟨_, _, rfl, N0.out, N1.out, D.out.2⟩
  case hr => exact results_row_tmp rfl _ _ (w.heap.size + 2) 25 _ (0, 0) _ _ rfl rfl D.out.1 Try.underlying25 rfl (by kernel_rfl)
end
end Go.Proofs.Ytmbbdjpnecjleaa
