/-
  The law RatBack, walked.
-/
import Derived.Test.YtmbbdjpnecjleaaLawBack0
namespace Go.Proofs.Ytmbbdjpnecjleaa
open Go.RowKit

set_option maxRecDepth 100000 in
set_option maxHeartbeats 1000000 in
theorem back_bad (s s' : Bool) (A B A' B' : Option Addr) (c d c' d' : Nat) (x0 y0 x0' y0' : List Nat) (xs ys xs' ys' : List Nat) (w : World) (h1 : RdL w A x0) (h2 : RdL w B y0) (h3 : RdL w A' x0') (h4 : RdL w B' y0') (k1 : x0.length ≤ c) (k2 : y0.length ≤ d) (k3 : x0'.length ≤ c') (k4 : y0'.length ≤ d') (m1 : Lim x0) (m2 : Lim y0) (m3 : Lim x0') (m4 : Lim y0') (hr : (rightB s xs ys && rightB s' xs' ys') = false) (e1 : few x0 = xs) (e2 : few y0 = ys) (e3 : few x0' = xs') (e4 : few y0' = ys') :
    Calls Try.prog 8 #[.agg #[.bool s, .slice A x0.length c, .slice B y0.length d], .agg #[.bool s', .slice A' x0'.length c', .slice B' y0'.length d']] w (RetT w) := by
  have HR := Lib.hid hr
  have HRS := Lib.hid (show (rightB s' xs' ys' && rightB s xs ys) = false by rw [Bool.and_comm]; exact hr); clear hr
  have R1 := Lib.hid (show RdL w A xs by rw [← e1]; exact h1.take 18); clear h1
  have R2 := Lib.hid (show RdL w B ys by rw [← e2]; exact h2.take 18); clear h2
  have R3 := Lib.hid (show RdL w A' xs' by rw [← e3]; exact h3.take 18); clear h3
  have R4 := Lib.hid (show RdL w B' ys' by rw [← e4]; exact h4.take 18); clear h4
  have L18 := Lib.hid (show xs.length ≤ 18 ∧ ys.length ≤ 18 ∧ xs'.length ≤ 18 ∧ ys'.length ≤ 18 by rw [← e1, ← e2, ← e3, ← e4]; exact ⟨few_le _, few_le _, few_le _, few_le _⟩)
  have KC := Lib.hid (show xs.length ≤ c ∧ ys.length ≤ d ∧ xs'.length ≤ c' ∧ ys'.length ≤ d' by rw [← e1, ← e2, ← e3, ← e4]; exact ⟨Nat.le_trans (few_short _) k1, Nat.le_trans (few_short _) k2, Nat.le_trans (few_short _) k3, Nat.le_trans (few_short _) k4⟩)
  have M := Lib.hid (show Lim xs ∧ Lim ys ∧ Lim xs' ∧ Lim ys' by rw [← e1, ← e2, ← e3, ← e4]; exact ⟨few_lim m1, few_lim m2, few_lim m3, few_lim m4⟩); clear m1 m2 m3 m4
  have F := Lib.hid (And.intro (And.intro k1 (And.intro k2 (And.intro e1 e2))) (And.intro k3 (And.intro k4 (And.intro e3 e4)))); clear k1 k2 k3 k4 e1 e2 e3 e4
  obtain ⟨wa, hwa⟩ : ∃ wa, wa = (w.alloc (.cells #[.bool s, .slice A x0.length c, .slice B y0.length d] 25)).alloc (.cells #[.bool s', .slice A' x0'.length c', .slice B' y0'.length d'] 25) := ⟨_, rfl⟩
  have hbl : Below w.heap.size w wa := by rw [hwa]; exact bel_alloc (bel_alloc (bel_refl _) _) _
  have CX : Blk wa (w.heap.size) 25 #[.bool s, .slice A x0.length c, .slice B y0.length d] := by
    have hz := Blk.new (w) 25 #[.bool s, .slice A x0.length c, .slice B y0.length d]
    rw [hwa]
    exact (hz.alloc _)
  have CY : Blk wa (w.heap.size + 1) 25 #[.bool s', .slice A' x0'.length c', .slice B' y0'.length d'] := by
    have hz := Blk.new (w.alloc (.cells #[.bool s, .slice A x0.length c, .slice B y0.length d] 25)) 25 #[.bool s', .slice A' x0'.length c', .slice B' y0'.length d']
    rw [World.size_alloc] at hz
    rw [hwa]
    exact hz
  replace R1 := Lib.hid (R1.out.below hbl)
  replace R2 := Lib.hid (R2.out.below hbl)
  replace R3 := Lib.hid (R3.out.below hbl)
  replace R4 := Lib.hid (R4.out.below hbl)
  have HW := Lib.hid hbl; clear hbl
  replace CX := Lib.hid CX
  replace CY := Lib.hid CY
  go_enter Try.func8, Try.ntmps8
  go_wp2_with fail
  rw [← hwa]
  clear hwa
  refine wp_region_typed 4 (TOf [VIs (.agg #[.bool s, .slice A x0.length c, .slice B y0.length d]),
      VIs (.agg #[.bool s, .slice A xs.length c, .slice B ys.length d]),
      VIs (.agg #[.bool s', .slice A' x0'.length c', .slice B' y0'.length d']),
      VIs (.agg #[.bool s', .slice A' xs'.length c', .slice B' ys'.length d'])]) (by kernel_rfl) (by kernel_rfl) (by kernel_rfl) (LiftAll.at_ (.cons (VIs.lift _) (.cons (VIs.lift _) (.cons (VIs.lift _) (.cons (VIs.lift _) .nil))))) (steps_all (steps_cons ?_ (steps_cons ?_ (steps_cons ?_ (steps_cons ?_ steps_zero))))) ?fin
  · intro a0 w9 K9 hF hB hK hC
    have b2 := hF.base (k := 2) (v := .pointer (some ⟨w.heap.size, 0, none⟩)) (by kernel_rfl) rfl
    have x90 : w9.cell? ⟨w.heap.size, 0, none⟩ = some (.bool s) := (CX.out.below hB CX.out.lt).cell 0
    have x91 : w9.cell? ⟨w.heap.size, 1, none⟩ = some (.slice A x0.length c) := (CX.out.below hB CX.out.lt).cell 1
    have x92 : w9.cell? ⟨w.heap.size, 2, none⟩ = some (.slice B y0.length d) := (CX.out.below hB CX.out.lt).cell 2
    clear hF hB hK
    go_simp
    exact hC _ _ (bel_refl _) fun _ _ => rfl
  · intro a0 w9 K9 hF hB hK hC
    obtain ⟨v18, e18, z18⟩ := dep hK 0 (g := .data) (j := 0) (k := 18) rfl rfl rfl
    have z18 : v18 = .agg #[.bool s, .slice A x0.length c, .slice B y0.length d] := z18
    subst z18
    have HB9 := Lib.hid hB
    clear hF hB hK
    go_simp
    refine (fewQ_is s A B c d x0 y0 xs ys _ F.out.1.1 F.out.1.2.1 F.out.1.2.2.1 F.out.1.2.2.2).mono ?_
    rintro e w7 ⟨rfl, hbl⟩
    exact hC _ _ hbl fun _ _ => rfl
  · intro a0 w9 K9 hF hB hK hC
    have b3 := hF.base (k := 3) (v := .pointer (some ⟨w.heap.size + 1, 0, none⟩)) (by kernel_rfl) rfl
    have x90 : w9.cell? ⟨w.heap.size + 1, 0, none⟩ = some (.bool s') := (CY.out.below hB CY.out.lt).cell 0
    have x91 : w9.cell? ⟨w.heap.size + 1, 1, none⟩ = some (.slice A' x0'.length c') := (CY.out.below hB CY.out.lt).cell 1
    have x92 : w9.cell? ⟨w.heap.size + 1, 2, none⟩ = some (.slice B' y0'.length d') := (CY.out.below hB CY.out.lt).cell 2
    clear hF hB hK
    go_simp
    exact hC _ _ (bel_refl _) fun _ _ => rfl
  · intro a0 w9 K9 hF hB hK hC
    obtain ⟨v20, e20, z20⟩ := dep hK 0 (g := .data) (j := 2) (k := 20) rfl rfl rfl
    have z20 : v20 = .agg #[.bool s', .slice A' x0'.length c', .slice B' y0'.length d'] := z20
    subst z20
    have HB9 := Lib.hid hB
    clear hF hB hK
    go_simp
    refine (fewQ_is s' A' B' c' d' x0' y0' xs' ys' _ F.out.2.1 F.out.2.2.1 F.out.2.2.2.1 F.out.2.2.2.2).mono ?_
    rintro e w7 ⟨rfl, hbl⟩
    exact hC _ _ hbl fun _ _ => rfl
  case fin =>
    intro a0 w9 hF hB hK
    have b2 := hF.base (k := 2) (v := .pointer (some ⟨w.heap.size, 0, none⟩)) (by kernel_rfl) rfl
    have b3 := hF.base (k := 3) (v := .pointer (some ⟨w.heap.size + 1, 0, none⟩)) (by kernel_rfl) rfl
    have hsz := hF.size
    have hdf := hF.defers
    clear hF
    obtain ⟨v19, e19, z19⟩ := known hK 1 (k := 19) (by decide) rfl
    have z19 : v19 = .agg #[.bool s, .slice A xs.length c, .slice B ys.length d] := z19
    subst z19
    obtain ⟨v21, e21, z21⟩ := known hK 3 (k := 21) (by decide) rfl
    have z21 : v21 = .agg #[.bool s', .slice A' xs'.length c', .slice B' ys'.length d'] := z21
    subst z21
    clear hK
    obtain ⟨⟨l0⟩, df⟩ := a0
    have hs0 : l0.length = 149 := hsz
    clear hsz
    replace hdf : df = _ := hdf
    subst hdf
    obtain ⟨u, rfl⟩ := lits_149 hs0
    clear hs0
    have q2 : u 2 = _ := Option.some.inj b2
    clear b2
    have q3 : u 3 = _ := Option.some.inj b3
    clear b3
    have q19 : u 19 = _ := Option.some.inj e19
    clear e19
    have q21 : u 21 = _ := Option.some.inj e21
    clear e21
    rw [q2, q3, q19, q21]
    clear q2 q3 q19 q21
    have hbl := hB; clear hB
    replace R1 := Lib.hid (R1.out.below hbl)
    replace R2 := Lib.hid (R2.out.below hbl)
    replace R3 := Lib.hid (R3.out.below hbl)
    replace R4 := Lib.hid (R4.out.below hbl)
    replace CX := Lib.hid (CX.out.below hbl CX.out.lt)
    replace CY := Lib.hid (CY.out.below hbl CY.out.lt)
    replace HW := Lib.hid (bel_trans HW.out hbl); clear hbl
    simp only [List.drop_succ_cons, List.drop_zero]
    have pd0 := CX.out.cell 0
    have pf0 := CX.out.frozen 0
    have pd1 := CX.out.cell 1
    have pf1 := CX.out.frozen 1
    have pd2 := CX.out.cell 2
    have pf2 := CX.out.frozen 2
    have qd0 := CY.out.cell 0
    have qf0 := CY.out.frozen 0
    have qd1 := CY.out.cell 1
    have qf1 := CY.out.frozen 1
    have qd2 := CY.out.cell 2
    have qf2 := CY.out.frozen 2
    go_upto_region 2 with fail
    clear pd0 pf0 pd1 pf1 pd2 pf2 qd0 qf0 qd1 qf1 qd2 qf2
    obtain ⟨wf, hwf⟩ : ∃ wf, wf = ((((((w9.setCell ⟨w.heap.size, 0, none⟩ (.bool s)).setCell ⟨w.heap.size, 1, none⟩ (.slice A xs.length c)).setCell ⟨w.heap.size, 2, none⟩ (.slice B ys.length d)).setCell ⟨w.heap.size + 1, 0, none⟩ (.bool s')).setCell ⟨w.heap.size + 1, 1, none⟩ (.slice A' xs'.length c')).setCell ⟨w.heap.size + 1, 2, none⟩ (.slice B' ys'.length d')) := ⟨_, rfl⟩
    rw [← hwf]
    replace R1 := Lib.hid (show RdL wf _ _ by rw [hwf]; exact RdL.set3 ((((CY.out).far (p := ⟨w.heap.size, 0, none⟩) (by simp) _).far (p := ⟨w.heap.size, 1, none⟩) (by simp) _).far (p := ⟨w.heap.size, 2, none⟩) (by simp) _) (RdL.set3 (CX.out) (R1.out) _ _ _) _ _ _)
    replace R2 := Lib.hid (show RdL wf _ _ by rw [hwf]; exact RdL.set3 ((((CY.out).far (p := ⟨w.heap.size, 0, none⟩) (by simp) _).far (p := ⟨w.heap.size, 1, none⟩) (by simp) _).far (p := ⟨w.heap.size, 2, none⟩) (by simp) _) (RdL.set3 (CX.out) (R2.out) _ _ _) _ _ _)
    replace R3 := Lib.hid (show RdL wf _ _ by rw [hwf]; exact RdL.set3 ((((CY.out).far (p := ⟨w.heap.size, 0, none⟩) (by simp) _).far (p := ⟨w.heap.size, 1, none⟩) (by simp) _).far (p := ⟨w.heap.size, 2, none⟩) (by simp) _) (RdL.set3 (CX.out) (R3.out) _ _ _) _ _ _)
    replace R4 := Lib.hid (show RdL wf _ _ by rw [hwf]; exact RdL.set3 ((((CY.out).far (p := ⟨w.heap.size, 0, none⟩) (by simp) _).far (p := ⟨w.heap.size, 1, none⟩) (by simp) _).far (p := ⟨w.heap.size, 2, none⟩) (by simp) _) (RdL.set3 (CX.out) (R4.out) _ _ _) _ _ _)
    have CX_ := Lib.hid (show Blk wf (w.heap.size) 25 #[.bool s, .slice A xs.length c, .slice B ys.length d] by rw [hwf]; exact ((((((CX.out).put 0 (.bool s)).put 1 (.slice A xs.length c)).put 2 (.slice B ys.length d)).far (p := ⟨w.heap.size + 1, 0, none⟩) (by simp) _).far (p := ⟨w.heap.size + 1, 1, none⟩) (by simp) _).far (p := ⟨w.heap.size + 1, 2, none⟩) (by simp) _)
    have CY_ := Lib.hid (show Blk wf (w.heap.size + 1) 25 #[.bool s', .slice A' xs'.length c', .slice B' ys'.length d'] by rw [hwf]; exact ((((((CY.out).far (p := ⟨w.heap.size, 0, none⟩) (by simp) _).far (p := ⟨w.heap.size, 1, none⟩) (by simp) _).far (p := ⟨w.heap.size, 2, none⟩) (by simp) _).put 0 (.bool s')).put 1 (.slice A' xs'.length c')).put 2 (.slice B' ys'.length d'))
    replace CX := CX_; clear CX_
    replace CY := CY_; clear CY_
    replace HW := Lib.hid (show Below w.heap.size w wf by rw [hwf]; exact bel_set (p := ⟨w.heap.size + 1, 2, none⟩) (bel_set (p := ⟨w.heap.size + 1, 1, none⟩) (bel_set (p := ⟨w.heap.size + 1, 0, none⟩) (bel_set (p := ⟨w.heap.size, 2, none⟩) (bel_set (p := ⟨w.heap.size, 1, none⟩) (bel_set (p := ⟨w.heap.size, 0, none⟩) (HW.out) (by show w.heap.size ≤ w.heap.size; omega) _) (by show w.heap.size ≤ w.heap.size; omega) _) (by show w.heap.size ≤ w.heap.size; omega) _) (by show w.heap.size ≤ w.heap.size + 1; omega) _) (by show w.heap.size ≤ w.heap.size + 1; omega) _) (by show w.heap.size ≤ w.heap.size + 1; omega) _)
    clear hwf
    have CX0 : wf.cell? ⟨w.heap.size, 0, none⟩ = some (.bool s) := CX.out.cell 0
    have CX1 : wf.cell? ⟨w.heap.size, 1, none⟩ = some (.slice A xs.length c) := CX.out.cell 1
    have CX2 : wf.cell? ⟨w.heap.size, 2, none⟩ = some (.slice B ys.length d) := CX.out.cell 2
    have CY0 : wf.cell? ⟨w.heap.size + 1, 0, none⟩ = some (.bool s') := CY.out.cell 0
    have CY1 : wf.cell? ⟨w.heap.size + 1, 1, none⟩ = some (.slice A' xs'.length c') := CY.out.cell 1
    have CY2 : wf.cell? ⟨w.heap.size + 1, 2, none⟩ = some (.slice B' ys'.length d') := CY.out.cell 2
    go_wp2_with fail
    refine (add_of s s' A B A' B' _ _ _ _ c d c' d' _ (fun w1 hb => add_bad false s s' A B A' B' c d c' d' xs ys xs' ys' w1 (R1.out.below hb) (R2.out.below hb) (R3.out.below hb) (R4.out.below hb) M.out.1 M.out.2.1 M.out.2.2.1 M.out.2.2.2 L18.out.1 L18.out.2.1 L18.out.2.2.1 L18.out.2.2.2 KC.out.1 KC.out.2.1 KC.out.2.2.1 KC.out.2.2.2 HR.out)).mono ?_
    rintro e w1 ⟨vs, vt, rfl, hns, hnt, hbl⟩
    replace R1 := Lib.hid (R1.out.below hbl)
    replace R2 := Lib.hid (R2.out.below hbl)
    replace R3 := Lib.hid (R3.out.below hbl)
    replace R4 := Lib.hid (R4.out.below hbl)
    replace CX := Lib.hid (CX.out.below hbl CX.out.lt)
    replace CY := Lib.hid (CY.out.below hbl CY.out.lt)
    replace HW := Lib.hid (bel_trans HW.out hbl); clear hbl
    clear CX0 CX1 CX2 CY0 CY1 CY2
    have CX0 : w1.cell? ⟨w.heap.size, 0, none⟩ = some (.bool s) := CX.out.cell 0
    have CX1 : w1.cell? ⟨w.heap.size, 1, none⟩ = some (.slice A xs.length c) := CX.out.cell 1
    have CX2 : w1.cell? ⟨w.heap.size, 2, none⟩ = some (.slice B ys.length d) := CX.out.cell 2
    have CY0 : w1.cell? ⟨w.heap.size + 1, 0, none⟩ = some (.bool s') := CY.out.cell 0
    have CY1 : w1.cell? ⟨w.heap.size + 1, 1, none⟩ = some (.slice A' xs'.length c') := CY.out.cell 1
    have CY2 : w1.cell? ⟨w.heap.size + 1, 2, none⟩ = some (.slice B' ys'.length d') := CY.out.cell 2
    have HNs := Lib.hid hns; clear hns
    obtain ⟨As, cs, rfl, hcs, hrs⟩ := HNs.out.row
    have Rs := Lib.hid hrs; have HCs := Lib.hid hcs; clear hrs hcs
    have HNt := Lib.hid hnt; clear hnt
    obtain ⟨At, ct, rfl, hct, hrt⟩ := HNt.out.row
    have Rt := Lib.hid hrt; have HCt := Lib.hid hct; clear hrt hct
    go_upto_region 8 with fail
    obtain ⟨wm, hwm⟩ : ∃ wm, wm = w1.alloc (.cells #[.bool noQ.s, .slice As (limbs noQ.n).length cs, .slice At (limbs noQ.d).length ct] 25) := ⟨_, rfl⟩
    rw [← hwm]
    have hbl : Below w1.heap.size w1 wm := by rw [hwm]; exact bel_alloc (bel_refl _) _
    have VS : Blk wm (w1.heap.size) 25 #[.bool noQ.s, .slice As (limbs noQ.n).length cs, .slice At (limbs noQ.d).length ct] := by
      have hz := Blk.new (w1) 25 #[.bool noQ.s, .slice As (limbs noQ.n).length cs, .slice At (limbs noQ.d).length ct]
      rw [hwm]
      exact hz
    clear hwm
    replace R1 := Lib.hid (R1.out.below hbl)
    replace R2 := Lib.hid (R2.out.below hbl)
    replace R3 := Lib.hid (R3.out.below hbl)
    replace R4 := Lib.hid (R4.out.below hbl)
    replace Rs := Lib.hid (Rs.out.below hbl)
    replace HNs := Lib.hid (HNs.out.below hbl)
    replace Rt := Lib.hid (Rt.out.below hbl)
    replace HNt := Lib.hid (HNt.out.below hbl)
    replace CX := Lib.hid (CX.out.below hbl CX.out.lt)
    replace CY := Lib.hid (CY.out.below hbl CY.out.lt)
    replace HW := Lib.hid (bel_trans HW.out hbl); clear hbl
    replace VS := Lib.hid VS
    clear CX0 CX1 CX2 CY0 CY1 CY2
    have CX0 : wm.cell? ⟨w.heap.size, 0, none⟩ = some (.bool s) := CX.out.cell 0
    have CX1 : wm.cell? ⟨w.heap.size, 1, none⟩ = some (.slice A xs.length c) := CX.out.cell 1
    have CX2 : wm.cell? ⟨w.heap.size, 2, none⟩ = some (.slice B ys.length d) := CX.out.cell 2
    have CY0 : wm.cell? ⟨w.heap.size + 1, 0, none⟩ = some (.bool s') := CY.out.cell 0
    have CY1 : wm.cell? ⟨w.heap.size + 1, 1, none⟩ = some (.slice A' xs'.length c') := CY.out.cell 1
    have CY2 : wm.cell? ⟨w.heap.size + 1, 2, none⟩ = some (.slice B' ys'.length d') := CY.out.cell 2
    go_wp2_with fail
    refine (mulQ_bad s s' A B A' B' c d c' d' xs ys xs' ys' _ R1.out R2.out R3.out R4.out M.out.1 M.out.2.1 M.out.2.2.1 M.out.2.2.2 L18.out.1 L18.out.2.1 L18.out.2.2.1 L18.out.2.2.2 KC.out.1 KC.out.2.1 KC.out.2.2.1 KC.out.2.2.2 HR.out).mono ?_
    rintro e w2 ⟨vp, vr, rfl, hnp, hnr, hbl⟩
    replace R1 := Lib.hid (R1.out.below hbl)
    replace R2 := Lib.hid (R2.out.below hbl)
    replace R3 := Lib.hid (R3.out.below hbl)
    replace R4 := Lib.hid (R4.out.below hbl)
    replace Rs := Lib.hid (Rs.out.below hbl)
    replace HNs := Lib.hid (HNs.out.below hbl)
    replace Rt := Lib.hid (Rt.out.below hbl)
    replace HNt := Lib.hid (HNt.out.below hbl)
    replace CX := Lib.hid (CX.out.below hbl CX.out.lt)
    replace CY := Lib.hid (CY.out.below hbl CY.out.lt)
    replace VS := Lib.hid (VS.out.below hbl VS.out.lt)
    replace HW := Lib.hid (bel_trans HW.out hbl); clear hbl
    clear CX0 CX1 CX2 CY0 CY1 CY2
    have CX0 : w2.cell? ⟨w.heap.size, 0, none⟩ = some (.bool s) := CX.out.cell 0
    have CX1 : w2.cell? ⟨w.heap.size, 1, none⟩ = some (.slice A xs.length c) := CX.out.cell 1
    have CX2 : w2.cell? ⟨w.heap.size, 2, none⟩ = some (.slice B ys.length d) := CX.out.cell 2
    have CY0 : w2.cell? ⟨w.heap.size + 1, 0, none⟩ = some (.bool s') := CY.out.cell 0
    have CY1 : w2.cell? ⟨w.heap.size + 1, 1, none⟩ = some (.slice A' xs'.length c') := CY.out.cell 1
    have CY2 : w2.cell? ⟨w.heap.size + 1, 2, none⟩ = some (.slice B' ys'.length d') := CY.out.cell 2
    have HNp := Lib.hid hnp; clear hnp
    obtain ⟨Ap, cp, rfl, hcp, hrp⟩ := HNp.out.row
    have Rp := Lib.hid hrp; have HCp := Lib.hid hcp; clear hrp hcp
    have HNr := Lib.hid hnr; clear hnr
    obtain ⟨Ar, cr, rfl, hcr, hrr⟩ := HNr.out.row
    have Rr := Lib.hid hrr; have HCr := Lib.hid hcr; clear hrr hcr
    go_upto_region 13 with fail
    obtain ⟨wn, hwn⟩ : ∃ wn, wn = w2.alloc (.cells #[.bool noQ.s, .slice Ap (limbs noQ.n).length cp, .slice Ar (limbs noQ.d).length cr] 25) := ⟨_, rfl⟩
    rw [← hwn]
    have hbl : Below w2.heap.size w2 wn := by rw [hwn]; exact bel_alloc (bel_refl _) _
    have VP : Blk wn (w2.heap.size) 25 #[.bool noQ.s, .slice Ap (limbs noQ.n).length cp, .slice Ar (limbs noQ.d).length cr] := by
      have hz := Blk.new (w2) 25 #[.bool noQ.s, .slice Ap (limbs noQ.n).length cp, .slice Ar (limbs noQ.d).length cr]
      rw [hwn]
      exact hz
    clear hwn
    replace R1 := Lib.hid (R1.out.below hbl)
    replace R2 := Lib.hid (R2.out.below hbl)
    replace R3 := Lib.hid (R3.out.below hbl)
    replace R4 := Lib.hid (R4.out.below hbl)
    replace Rs := Lib.hid (Rs.out.below hbl)
    replace HNs := Lib.hid (HNs.out.below hbl)
    replace Rt := Lib.hid (Rt.out.below hbl)
    replace HNt := Lib.hid (HNt.out.below hbl)
    replace Rp := Lib.hid (Rp.out.below hbl)
    replace HNp := Lib.hid (HNp.out.below hbl)
    replace Rr := Lib.hid (Rr.out.below hbl)
    replace HNr := Lib.hid (HNr.out.below hbl)
    replace CX := Lib.hid (CX.out.below hbl CX.out.lt)
    replace CY := Lib.hid (CY.out.below hbl CY.out.lt)
    replace VS := Lib.hid (VS.out.below hbl VS.out.lt)
    replace HW := Lib.hid (bel_trans HW.out hbl); clear hbl
    replace VP := Lib.hid VP
    clear CX0 CX1 CX2 CY0 CY1 CY2
    have CX0 : wn.cell? ⟨w.heap.size, 0, none⟩ = some (.bool s) := CX.out.cell 0
    have CX1 : wn.cell? ⟨w.heap.size, 1, none⟩ = some (.slice A xs.length c) := CX.out.cell 1
    have CX2 : wn.cell? ⟨w.heap.size, 2, none⟩ = some (.slice B ys.length d) := CX.out.cell 2
    have CY0 : wn.cell? ⟨w.heap.size + 1, 0, none⟩ = some (.bool s') := CY.out.cell 0
    have CY1 : wn.cell? ⟨w.heap.size + 1, 1, none⟩ = some (.slice A' xs'.length c') := CY.out.cell 1
    have CY2 : wn.cell? ⟨w.heap.size + 1, 2, none⟩ = some (.slice B' ys'.length d') := CY.out.cell 2
    go_wp2_with fail
    refine (qcmp_bad s s' A B A' B' c d c' d' xs ys xs' ys' _ R1.out R2.out R3.out R4.out M.out.1 M.out.2.1 M.out.2.2.1 M.out.2.2.2 L18.out.1 L18.out.2.1 L18.out.2.2.1 L18.out.2.2.2 KC.out.1 KC.out.2.1 KC.out.2.2.1 KC.out.2.2.2 HR.out).mono ?_
    rintro e w3 ⟨rfl, hbl⟩
    replace R1 := Lib.hid (R1.out.below hbl)
    replace R2 := Lib.hid (R2.out.below hbl)
    replace R3 := Lib.hid (R3.out.below hbl)
    replace R4 := Lib.hid (R4.out.below hbl)
    replace Rs := Lib.hid (Rs.out.below hbl)
    replace HNs := Lib.hid (HNs.out.below hbl)
    replace Rt := Lib.hid (Rt.out.below hbl)
    replace HNt := Lib.hid (HNt.out.below hbl)
    replace Rp := Lib.hid (Rp.out.below hbl)
    replace HNp := Lib.hid (HNp.out.below hbl)
    replace Rr := Lib.hid (Rr.out.below hbl)
    replace HNr := Lib.hid (HNr.out.below hbl)
    replace CX := Lib.hid (CX.out.below hbl CX.out.lt)
    replace CY := Lib.hid (CY.out.below hbl CY.out.lt)
    replace VS := Lib.hid (VS.out.below hbl VS.out.lt)
    replace VP := Lib.hid (VP.out.below hbl VP.out.lt)
    replace HW := Lib.hid (bel_trans HW.out hbl); clear hbl
    clear CX0 CX1 CX2 CY0 CY1 CY2
    have CX0 : w3.cell? ⟨w.heap.size, 0, none⟩ = some (.bool s) := CX.out.cell 0
    have CX1 : w3.cell? ⟨w.heap.size, 1, none⟩ = some (.slice A xs.length c) := CX.out.cell 1
    have CX2 : w3.cell? ⟨w.heap.size, 2, none⟩ = some (.slice B ys.length d) := CX.out.cell 2
    have CY0 : w3.cell? ⟨w.heap.size + 1, 0, none⟩ = some (.bool s') := CY.out.cell 0
    have CY1 : w3.cell? ⟨w.heap.size + 1, 1, none⟩ = some (.slice A' xs'.length c') := CY.out.cell 1
    have CY2 : w3.cell? ⟨w.heap.size + 1, 2, none⟩ = some (.slice B' ys'.length d') := CY.out.cell 2
    go_wp2_with fail
    refine (qcmp_bad s' s A' B' A B c' d' c d xs' ys' xs ys _ R3.out R4.out R1.out R2.out M.out.2.2.1 M.out.2.2.2 M.out.1 M.out.2.1 L18.out.2.2.1 L18.out.2.2.2 L18.out.1 L18.out.2.1 KC.out.2.2.1 KC.out.2.2.2 KC.out.1 KC.out.2.1 HRS.out).mono ?_
    rintro e w4 ⟨rfl, hbl⟩
    replace R1 := Lib.hid (R1.out.below hbl)
    replace R2 := Lib.hid (R2.out.below hbl)
    replace R3 := Lib.hid (R3.out.below hbl)
    replace R4 := Lib.hid (R4.out.below hbl)
    replace Rs := Lib.hid (Rs.out.below hbl)
    replace HNs := Lib.hid (HNs.out.below hbl)
    replace Rt := Lib.hid (Rt.out.below hbl)
    replace HNt := Lib.hid (HNt.out.below hbl)
    replace Rp := Lib.hid (Rp.out.below hbl)
    replace HNp := Lib.hid (HNp.out.below hbl)
    replace Rr := Lib.hid (Rr.out.below hbl)
    replace HNr := Lib.hid (HNr.out.below hbl)
    replace CX := Lib.hid (CX.out.below hbl CX.out.lt)
    replace CY := Lib.hid (CY.out.below hbl CY.out.lt)
    replace VS := Lib.hid (VS.out.below hbl VS.out.lt)
    replace VP := Lib.hid (VP.out.below hbl VP.out.lt)
    replace HW := Lib.hid (bel_trans HW.out hbl); clear hbl
    clear CX0 CX1 CX2 CY0 CY1 CY2
    have CX0 : w4.cell? ⟨w.heap.size, 0, none⟩ = some (.bool s) := CX.out.cell 0
    have CX1 : w4.cell? ⟨w.heap.size, 1, none⟩ = some (.slice A xs.length c) := CX.out.cell 1
    have CX2 : w4.cell? ⟨w.heap.size, 2, none⟩ = some (.slice B ys.length d) := CX.out.cell 2
    have CY0 : w4.cell? ⟨w.heap.size + 1, 0, none⟩ = some (.bool s') := CY.out.cell 0
    have CY1 : w4.cell? ⟨w.heap.size + 1, 1, none⟩ = some (.slice A' xs'.length c') := CY.out.cell 1
    have CY2 : w4.cell? ⟨w.heap.size + 1, 2, none⟩ = some (.slice B' ys'.length d') := CY.out.cell 2
    go_wp2_with fail
    refine (aliveQ _).mono ?_
    rintro e w5 ⟨rfl, hbl⟩
    replace R1 := Lib.hid (R1.out.below hbl)
    replace R2 := Lib.hid (R2.out.below hbl)
    replace R3 := Lib.hid (R3.out.below hbl)
    replace R4 := Lib.hid (R4.out.below hbl)
    replace Rs := Lib.hid (Rs.out.below hbl)
    replace HNs := Lib.hid (HNs.out.below hbl)
    replace Rt := Lib.hid (Rt.out.below hbl)
    replace HNt := Lib.hid (HNt.out.below hbl)
    replace Rp := Lib.hid (Rp.out.below hbl)
    replace HNp := Lib.hid (HNp.out.below hbl)
    replace Rr := Lib.hid (Rr.out.below hbl)
    replace HNr := Lib.hid (HNr.out.below hbl)
    replace CX := Lib.hid (CX.out.below hbl CX.out.lt)
    replace CY := Lib.hid (CY.out.below hbl CY.out.lt)
    replace VS := Lib.hid (VS.out.below hbl VS.out.lt)
    replace VP := Lib.hid (VP.out.below hbl VP.out.lt)
    replace HW := Lib.hid (bel_trans HW.out hbl); clear hbl
    clear CX0 CX1 CX2 CY0 CY1 CY2
    have CX0 : w5.cell? ⟨w.heap.size, 0, none⟩ = some (.bool s) := CX.out.cell 0
    have CX1 : w5.cell? ⟨w.heap.size, 1, none⟩ = some (.slice A xs.length c) := CX.out.cell 1
    have CX2 : w5.cell? ⟨w.heap.size, 2, none⟩ = some (.slice B ys.length d) := CX.out.cell 2
    have CY0 : w5.cell? ⟨w.heap.size + 1, 0, none⟩ = some (.bool s') := CY.out.cell 0
    have CY1 : w5.cell? ⟨w.heap.size + 1, 1, none⟩ = some (.slice A' xs'.length c') := CY.out.cell 1
    have CY2 : w5.cell? ⟨w.heap.size + 1, 2, none⟩ = some (.slice B' ys'.length d') := CY.out.cell 2
    go_wp2
    go_ret
    exact ⟨rfl, HW.out⟩

set_option maxRecDepth 100000 in
set_option maxHeartbeats 4000000 in
theorem back_good (s s' : Bool) (A B A' B' : Option Addr) (c d c' d' : Nat) (x0 y0 x0' y0' : List Nat) (n d0 m f0 : Nat) (w : World) (h1 : RdL w A x0) (h2 : RdL w B y0) (h3 : RdL w A' x0') (h4 : RdL w B' y0') (k1 : x0.length ≤ c) (k2 : y0.length ≤ d) (k3 : x0'.length ≤ c') (k4 : y0'.length ≤ d') (m1 : Lim x0) (m2 : Lim y0) (m3 : Lim x0') (m4 : Lim y0') (hn : n < Top) (hd : d0 < Top) (hq : QR ⟨s, n, d0⟩) (hm : m < Top) (hf : f0 < Top) (hp : QR ⟨s', m, f0⟩) (e1 : few x0 = limbs n) (e2 : few y0 = limbs d0) (e3 : few x0' = limbs m) (e4 : few y0' = limbs f0) :
    Calls Try.prog 8 #[.agg #[.bool s, .slice A x0.length c, .slice B y0.length d], .agg #[.bool s', .slice A' x0'.length c', .slice B' y0'.length d']] w (RetT w) := by
  have HQ := Lib.hid (And.intro hn (And.intro hd hq)); clear hn hd hq
  have HP := Lib.hid (And.intro hm (And.intro hf hp)); clear hm hf hp
  obtain ⟨q1, c1, a1, v1, v1'⟩ := ans_add ⟨s, n, d0⟩ ⟨s', m, f0⟩ false HQ.out.2.2.den HP.out.2.2.den
  have V1 := Lib.hid (And.intro v1 v1'); clear v1 v1'
  obtain ⟨ov1, hk1⟩ : ∃ k, (decide (Top ≤ n * f0 + m * d0) || decide (Top ≤ d0 * f0)) = k := ⟨_, rfl⟩
  have HK1 := Lib.hid hk1
  have A1 := Lib.hid (show Ans q1 (sumQ s (s' != false) (n * f0) (m * d0) (d0 * f0)) c1 ov1 by rw [← hk1]; exact a1); clear a1 hk1
  obtain ⟨q3, c3, a3, v3, v3'⟩ := ans_red (s != s') (n * m) (d0 * f0) (den_ne HQ.out.2.2.den HP.out.2.2.den)
  have V3 := Lib.hid (And.intro v3 v3'); clear v3 v3'
  obtain ⟨ov3, hk3⟩ : ∃ k, overB false (n * m) (d0 * f0) = k := ⟨_, rfl⟩
  have A3 := Lib.hid (show Ans q3 (redQ (s != s') (n * m) (d0 * f0)) c3 ov3 by rw [← hk3]; exact a3); clear a3 hk3
  have R1 := Lib.hid (show RdL w A (limbs n) by rw [← e1]; exact h1.take 18); clear h1
  have R2 := Lib.hid (show RdL w B (limbs d0) by rw [← e2]; exact h2.take 18); clear h2
  have R3 := Lib.hid (show RdL w A' (limbs m) by rw [← e3]; exact h3.take 18); clear h3
  have R4 := Lib.hid (show RdL w B' (limbs f0) by rw [← e4]; exact h4.take 18); clear h4
  have L18 := Lib.hid (show (limbs n).length ≤ 18 ∧ (limbs d0).length ≤ 18 ∧ (limbs m).length ≤ 18 ∧ (limbs f0).length ≤ 18 by rw [← e1, ← e2, ← e3, ← e4]; exact ⟨few_le _, few_le _, few_le _, few_le _⟩)
  have KC := Lib.hid (show (limbs n).length ≤ c ∧ (limbs d0).length ≤ d ∧ (limbs m).length ≤ c' ∧ (limbs f0).length ≤ d' by rw [← e1, ← e2, ← e3, ← e4]; exact ⟨Nat.le_trans (few_short _) k1, Nat.le_trans (few_short _) k2, Nat.le_trans (few_short _) k3, Nat.le_trans (few_short _) k4⟩)
  have M := Lib.hid (show Lim (limbs n) ∧ Lim (limbs d0) ∧ Lim (limbs m) ∧ Lim (limbs f0) by rw [← e1, ← e2, ← e3, ← e4]; exact ⟨few_lim m1, few_lim m2, few_lim m3, few_lim m4⟩); clear m1 m2 m3 m4
  have F := Lib.hid (And.intro (And.intro k1 (And.intro k2 (And.intro e1 e2))) (And.intro k3 (And.intro k4 (And.intro e3 e4)))); clear k1 k2 k3 k4 e1 e2 e3 e4
  obtain ⟨wa, hwa⟩ : ∃ wa, wa = (w.alloc (.cells #[.bool s, .slice A x0.length c, .slice B y0.length d] 25)).alloc (.cells #[.bool s', .slice A' x0'.length c', .slice B' y0'.length d'] 25) := ⟨_, rfl⟩
  have hbl : Below w.heap.size w wa := by rw [hwa]; exact bel_alloc (bel_alloc (bel_refl _) _) _
  have CX : Blk wa (w.heap.size) 25 #[.bool s, .slice A x0.length c, .slice B y0.length d] := by
    have hz := Blk.new (w) 25 #[.bool s, .slice A x0.length c, .slice B y0.length d]
    rw [hwa]
    exact (hz.alloc _)
  have CY : Blk wa (w.heap.size + 1) 25 #[.bool s', .slice A' x0'.length c', .slice B' y0'.length d'] := by
    have hz := Blk.new (w.alloc (.cells #[.bool s, .slice A x0.length c, .slice B y0.length d] 25)) 25 #[.bool s', .slice A' x0'.length c', .slice B' y0'.length d']
    rw [World.size_alloc] at hz
    rw [hwa]
    exact hz
  replace R1 := Lib.hid (R1.out.below hbl)
  replace R2 := Lib.hid (R2.out.below hbl)
  replace R3 := Lib.hid (R3.out.below hbl)
  replace R4 := Lib.hid (R4.out.below hbl)
  have HW := Lib.hid hbl; clear hbl
  replace CX := Lib.hid CX
  replace CY := Lib.hid CY
  go_enter Try.func8, Try.ntmps8
  go_wp2_with fail
  rw [← hwa]
  clear hwa
  refine wp_region_typed 4 (TOf [VIs (.agg #[.bool s, .slice A x0.length c, .slice B y0.length d]),
      VIs (.agg #[.bool s, .slice A (limbs n).length c, .slice B (limbs d0).length d]),
      VIs (.agg #[.bool s', .slice A' x0'.length c', .slice B' y0'.length d']),
      VIs (.agg #[.bool s', .slice A' (limbs m).length c', .slice B' (limbs f0).length d'])]) (by kernel_rfl) (by kernel_rfl) (by kernel_rfl) (LiftAll.at_ (.cons (VIs.lift _) (.cons (VIs.lift _) (.cons (VIs.lift _) (.cons (VIs.lift _) .nil))))) (steps_all (steps_cons ?_ (steps_cons ?_ (steps_cons ?_ (steps_cons ?_ steps_zero))))) ?fin
  · intro a0 w9 K9 hF hB hK hC
    have b2 := hF.base (k := 2) (v := .pointer (some ⟨w.heap.size, 0, none⟩)) (by kernel_rfl) rfl
    have x90 : w9.cell? ⟨w.heap.size, 0, none⟩ = some (.bool s) := (CX.out.below hB CX.out.lt).cell 0
    have x91 : w9.cell? ⟨w.heap.size, 1, none⟩ = some (.slice A x0.length c) := (CX.out.below hB CX.out.lt).cell 1
    have x92 : w9.cell? ⟨w.heap.size, 2, none⟩ = some (.slice B y0.length d) := (CX.out.below hB CX.out.lt).cell 2
    clear hF hB hK
    go_simp
    exact hC _ _ (bel_refl _) fun _ _ => rfl
  · intro a0 w9 K9 hF hB hK hC
    obtain ⟨v18, e18, z18⟩ := dep hK 0 (g := .data) (j := 0) (k := 18) rfl rfl rfl
    have z18 : v18 = .agg #[.bool s, .slice A x0.length c, .slice B y0.length d] := z18
    subst z18
    have HB9 := Lib.hid hB
    clear hF hB hK
    go_simp
    refine (fewQ_is s A B c d x0 y0 (limbs n) (limbs d0) _ F.out.1.1 F.out.1.2.1 F.out.1.2.2.1 F.out.1.2.2.2).mono ?_
    rintro e w7 ⟨rfl, hbl⟩
    exact hC _ _ hbl fun _ _ => rfl
  · intro a0 w9 K9 hF hB hK hC
    have b3 := hF.base (k := 3) (v := .pointer (some ⟨w.heap.size + 1, 0, none⟩)) (by kernel_rfl) rfl
    have x90 : w9.cell? ⟨w.heap.size + 1, 0, none⟩ = some (.bool s') := (CY.out.below hB CY.out.lt).cell 0
    have x91 : w9.cell? ⟨w.heap.size + 1, 1, none⟩ = some (.slice A' x0'.length c') := (CY.out.below hB CY.out.lt).cell 1
    have x92 : w9.cell? ⟨w.heap.size + 1, 2, none⟩ = some (.slice B' y0'.length d') := (CY.out.below hB CY.out.lt).cell 2
    clear hF hB hK
    go_simp
    exact hC _ _ (bel_refl _) fun _ _ => rfl
  · intro a0 w9 K9 hF hB hK hC
    obtain ⟨v20, e20, z20⟩ := dep hK 0 (g := .data) (j := 2) (k := 20) rfl rfl rfl
    have z20 : v20 = .agg #[.bool s', .slice A' x0'.length c', .slice B' y0'.length d'] := z20
    subst z20
    have HB9 := Lib.hid hB
    clear hF hB hK
    go_simp
    refine (fewQ_is s' A' B' c' d' x0' y0' (limbs m) (limbs f0) _ F.out.2.1 F.out.2.2.1 F.out.2.2.2.1 F.out.2.2.2.2).mono ?_
    rintro e w7 ⟨rfl, hbl⟩
    exact hC _ _ hbl fun _ _ => rfl
  case fin =>
    intro a0 w9 hF hB hK
    have b2 := hF.base (k := 2) (v := .pointer (some ⟨w.heap.size, 0, none⟩)) (by kernel_rfl) rfl
    have b3 := hF.base (k := 3) (v := .pointer (some ⟨w.heap.size + 1, 0, none⟩)) (by kernel_rfl) rfl
    have hsz := hF.size
    have hdf := hF.defers
    clear hF
    obtain ⟨v19, e19, z19⟩ := known hK 1 (k := 19) (by decide) rfl
    have z19 : v19 = .agg #[.bool s, .slice A (limbs n).length c, .slice B (limbs d0).length d] := z19
    subst z19
    obtain ⟨v21, e21, z21⟩ := known hK 3 (k := 21) (by decide) rfl
    have z21 : v21 = .agg #[.bool s', .slice A' (limbs m).length c', .slice B' (limbs f0).length d'] := z21
    subst z21
    clear hK
    obtain ⟨⟨l0⟩, df⟩ := a0
    have hs0 : l0.length = 149 := hsz
    clear hsz
    replace hdf : df = _ := hdf
    subst hdf
    obtain ⟨u, rfl⟩ := lits_149 hs0
    clear hs0
    have q2 : u 2 = _ := Option.some.inj b2
    clear b2
    have q3 : u 3 = _ := Option.some.inj b3
    clear b3
    have q19 : u 19 = _ := Option.some.inj e19
    clear e19
    have q21 : u 21 = _ := Option.some.inj e21
    clear e21
    rw [q2, q3, q19, q21]
    clear q2 q3 q19 q21
    have hbl := hB; clear hB
    replace R1 := Lib.hid (R1.out.below hbl)
    replace R2 := Lib.hid (R2.out.below hbl)
    replace R3 := Lib.hid (R3.out.below hbl)
    replace R4 := Lib.hid (R4.out.below hbl)
    replace CX := Lib.hid (CX.out.below hbl CX.out.lt)
    replace CY := Lib.hid (CY.out.below hbl CY.out.lt)
    replace HW := Lib.hid (bel_trans HW.out hbl); clear hbl
    simp only [List.drop_succ_cons, List.drop_zero]
    have pd0 := CX.out.cell 0
    have pf0 := CX.out.frozen 0
    have pd1 := CX.out.cell 1
    have pf1 := CX.out.frozen 1
    have pd2 := CX.out.cell 2
    have pf2 := CX.out.frozen 2
    have qd0 := CY.out.cell 0
    have qf0 := CY.out.frozen 0
    have qd1 := CY.out.cell 1
    have qf1 := CY.out.frozen 1
    have qd2 := CY.out.cell 2
    have qf2 := CY.out.frozen 2
    go_upto_region 2 with fail
    clear pd0 pf0 pd1 pf1 pd2 pf2 qd0 qf0 qd1 qf1 qd2 qf2
    obtain ⟨wf, hwf⟩ : ∃ wf, wf = ((((((w9.setCell ⟨w.heap.size, 0, none⟩ (.bool s)).setCell ⟨w.heap.size, 1, none⟩ (.slice A (limbs n).length c)).setCell ⟨w.heap.size, 2, none⟩ (.slice B (limbs d0).length d)).setCell ⟨w.heap.size + 1, 0, none⟩ (.bool s')).setCell ⟨w.heap.size + 1, 1, none⟩ (.slice A' (limbs m).length c')).setCell ⟨w.heap.size + 1, 2, none⟩ (.slice B' (limbs f0).length d')) := ⟨_, rfl⟩
    rw [← hwf]
    replace R1 := Lib.hid (show RdL wf _ _ by rw [hwf]; exact RdL.set3 ((((CY.out).far (p := ⟨w.heap.size, 0, none⟩) (by simp) _).far (p := ⟨w.heap.size, 1, none⟩) (by simp) _).far (p := ⟨w.heap.size, 2, none⟩) (by simp) _) (RdL.set3 (CX.out) (R1.out) _ _ _) _ _ _)
    replace R2 := Lib.hid (show RdL wf _ _ by rw [hwf]; exact RdL.set3 ((((CY.out).far (p := ⟨w.heap.size, 0, none⟩) (by simp) _).far (p := ⟨w.heap.size, 1, none⟩) (by simp) _).far (p := ⟨w.heap.size, 2, none⟩) (by simp) _) (RdL.set3 (CX.out) (R2.out) _ _ _) _ _ _)
    replace R3 := Lib.hid (show RdL wf _ _ by rw [hwf]; exact RdL.set3 ((((CY.out).far (p := ⟨w.heap.size, 0, none⟩) (by simp) _).far (p := ⟨w.heap.size, 1, none⟩) (by simp) _).far (p := ⟨w.heap.size, 2, none⟩) (by simp) _) (RdL.set3 (CX.out) (R3.out) _ _ _) _ _ _)
    replace R4 := Lib.hid (show RdL wf _ _ by rw [hwf]; exact RdL.set3 ((((CY.out).far (p := ⟨w.heap.size, 0, none⟩) (by simp) _).far (p := ⟨w.heap.size, 1, none⟩) (by simp) _).far (p := ⟨w.heap.size, 2, none⟩) (by simp) _) (RdL.set3 (CX.out) (R4.out) _ _ _) _ _ _)
    have CX_ := Lib.hid (show Blk wf (w.heap.size) 25 #[.bool s, .slice A (limbs n).length c, .slice B (limbs d0).length d] by rw [hwf]; exact ((((((CX.out).put 0 (.bool s)).put 1 (.slice A (limbs n).length c)).put 2 (.slice B (limbs d0).length d)).far (p := ⟨w.heap.size + 1, 0, none⟩) (by simp) _).far (p := ⟨w.heap.size + 1, 1, none⟩) (by simp) _).far (p := ⟨w.heap.size + 1, 2, none⟩) (by simp) _)
    have CY_ := Lib.hid (show Blk wf (w.heap.size + 1) 25 #[.bool s', .slice A' (limbs m).length c', .slice B' (limbs f0).length d'] by rw [hwf]; exact ((((((CY.out).far (p := ⟨w.heap.size, 0, none⟩) (by simp) _).far (p := ⟨w.heap.size, 1, none⟩) (by simp) _).far (p := ⟨w.heap.size, 2, none⟩) (by simp) _).put 0 (.bool s')).put 1 (.slice A' (limbs m).length c')).put 2 (.slice B' (limbs f0).length d'))
    replace CX := CX_; clear CX_
    replace CY := CY_; clear CY_
    replace HW := Lib.hid (show Below w.heap.size w wf by rw [hwf]; exact bel_set (p := ⟨w.heap.size + 1, 2, none⟩) (bel_set (p := ⟨w.heap.size + 1, 1, none⟩) (bel_set (p := ⟨w.heap.size + 1, 0, none⟩) (bel_set (p := ⟨w.heap.size, 2, none⟩) (bel_set (p := ⟨w.heap.size, 1, none⟩) (bel_set (p := ⟨w.heap.size, 0, none⟩) (HW.out) (by show w.heap.size ≤ w.heap.size; omega) _) (by show w.heap.size ≤ w.heap.size; omega) _) (by show w.heap.size ≤ w.heap.size; omega) _) (by show w.heap.size ≤ w.heap.size + 1; omega) _) (by show w.heap.size ≤ w.heap.size + 1; omega) _) (by show w.heap.size ≤ w.heap.size + 1; omega) _)
    clear hwf
    have CX0 : wf.cell? ⟨w.heap.size, 0, none⟩ = some (.bool s) := CX.out.cell 0
    have CX1 : wf.cell? ⟨w.heap.size, 1, none⟩ = some (.slice A (limbs n).length c) := CX.out.cell 1
    have CX2 : wf.cell? ⟨w.heap.size, 2, none⟩ = some (.slice B (limbs d0).length d) := CX.out.cell 2
    have CY0 : wf.cell? ⟨w.heap.size + 1, 0, none⟩ = some (.bool s') := CY.out.cell 0
    have CY1 : wf.cell? ⟨w.heap.size + 1, 1, none⟩ = some (.slice A' (limbs m).length c') := CY.out.cell 1
    have CY2 : wf.cell? ⟨w.heap.size + 1, 2, none⟩ = some (.slice B' (limbs f0).length d') := CY.out.cell 2
    go_wp2_with fail
    refine (add_of s s' A B A' B' _ _ _ _ c d c' d' _ (add_q (q := q1) (e := c1) false A B A' B' c d c' d' ⟨s, n, d0⟩ ⟨s', m, f0⟩ _ R1.out R2.out R3.out R4.out KC.out.1 KC.out.2.1 KC.out.2.2.1 KC.out.2.2.2 HQ.out.1 HQ.out.2.1 HP.out.1 HP.out.2.1 HQ.out.2.2 HP.out.2.2 V1.out.1 V1.out.2)).mono ?_
    rintro e w1 ⟨vs, vt, rfl, hns, hnt, hbl⟩
    replace R1 := Lib.hid (R1.out.below hbl)
    replace R2 := Lib.hid (R2.out.below hbl)
    replace R3 := Lib.hid (R3.out.below hbl)
    replace R4 := Lib.hid (R4.out.below hbl)
    replace CX := Lib.hid (CX.out.below hbl CX.out.lt)
    replace CY := Lib.hid (CY.out.below hbl CY.out.lt)
    replace HW := Lib.hid (bel_trans HW.out hbl); clear hbl
    clear CX0 CX1 CX2 CY0 CY1 CY2
    have CX0 : w1.cell? ⟨w.heap.size, 0, none⟩ = some (.bool s) := CX.out.cell 0
    have CX1 : w1.cell? ⟨w.heap.size, 1, none⟩ = some (.slice A (limbs n).length c) := CX.out.cell 1
    have CX2 : w1.cell? ⟨w.heap.size, 2, none⟩ = some (.slice B (limbs d0).length d) := CX.out.cell 2
    have CY0 : w1.cell? ⟨w.heap.size + 1, 0, none⟩ = some (.bool s') := CY.out.cell 0
    have CY1 : w1.cell? ⟨w.heap.size + 1, 1, none⟩ = some (.slice A' (limbs m).length c') := CY.out.cell 1
    have CY2 : w1.cell? ⟨w.heap.size + 1, 2, none⟩ = some (.slice B' (limbs f0).length d') := CY.out.cell 2
    have HNs := Lib.hid hns; clear hns
    obtain ⟨As, cs, rfl, hcs, hrs⟩ := HNs.out.row
    have Rs := Lib.hid hrs; have HCs := Lib.hid hcs; clear hrs hcs
    have HNt := Lib.hid hnt; clear hnt
    obtain ⟨At, ct, rfl, hct, hrt⟩ := HNt.out.row
    have Rt := Lib.hid hrt; have HCt := Lib.hid hct; clear hrt hct
    go_upto_if 29 with fail
    obtain ⟨ws, hws⟩ : ∃ ws, ws = w1.alloc (.cells #[.bool q1.s, .slice As (limbs q1.n).length cs, .slice At (limbs q1.d).length ct] 25) := ⟨_, rfl⟩
    rw [← hws]
    have hbl : Below w1.heap.size w1 ws := by rw [hws]; exact bel_alloc (bel_refl _) _
    have VS : Blk ws (w1.heap.size) 25 #[.bool q1.s, .slice As (limbs q1.n).length cs, .slice At (limbs q1.d).length ct] := by
      have hz := Blk.new (w1) 25 #[.bool q1.s, .slice As (limbs q1.n).length cs, .slice At (limbs q1.d).length ct]
      rw [hws]
      exact hz
    clear hws
    replace R1 := Lib.hid (R1.out.below hbl)
    replace R2 := Lib.hid (R2.out.below hbl)
    replace R3 := Lib.hid (R3.out.below hbl)
    replace R4 := Lib.hid (R4.out.below hbl)
    replace Rs := Lib.hid (Rs.out.below hbl)
    replace HNs := Lib.hid (HNs.out.below hbl)
    replace Rt := Lib.hid (Rt.out.below hbl)
    replace HNt := Lib.hid (HNt.out.below hbl)
    replace CX := Lib.hid (CX.out.below hbl CX.out.lt)
    replace CY := Lib.hid (CY.out.below hbl CY.out.lt)
    replace HW := Lib.hid (bel_trans HW.out hbl); clear hbl
    replace VS := Lib.hid VS
    clear CX0 CX1 CX2 CY0 CY1 CY2
    have CX0 : ws.cell? ⟨w.heap.size, 0, none⟩ = some (.bool s) := CX.out.cell 0
    have CX1 : ws.cell? ⟨w.heap.size, 1, none⟩ = some (.slice A (limbs n).length c) := CX.out.cell 1
    have CX2 : ws.cell? ⟨w.heap.size, 2, none⟩ = some (.slice B (limbs d0).length d) := CX.out.cell 2
    have CY0 : ws.cell? ⟨w.heap.size + 1, 0, none⟩ = some (.bool s') := CY.out.cell 0
    have CY1 : ws.cell? ⟨w.heap.size + 1, 1, none⟩ = some (.slice A' (limbs m).length c') := CY.out.cell 1
    have CY2 : ws.cell? ⟨w.heap.size + 1, 2, none⟩ = some (.slice B' (limbs f0).length d') := CY.out.cell 2
    have VS0 : ws.cell? ⟨w1.heap.size, 0, none⟩ = some (.bool q1.s) := VS.out.cell 0
    have VS1 : ws.cell? ⟨w1.heap.size, 1, none⟩ = some (.slice As (limbs q1.n).length cs) := VS.out.cell 1
    have VS2 : ws.cell? ⟨w1.heap.size, 2, none⟩ = some (.slice At (limbs q1.d).length ct) := VS.out.cell 2
    go_cut [] from 5 (fun wx => BkRel w s s' A B A' B' c d c' d' (limbs n) (limbs d0) (limbs m) (limbs f0) wx)
    case first =>
      rcases (show ov1 = true ∨ ov1 = false by cases ov1 <;> simp) with hk | hk
      · obtain ⟨rfl, rfl⟩ := A1.out.over hk
        clear hk
        go_wp2_with fail
        go_meet
        exact ⟨HW.out, CX.out, CY.out, R1.out, R2.out, R3.out, R4.out⟩
      · obtain ⟨rfl, hqf, t5, t6, r5⟩ := A1.out.good hk
        have HF1 := Lib.hid (And.intro hqf.symm (show (decide (Top ≤ n * f0 + m * d0) || decide (Top ≤ d0 * f0)) = false by rw [HK1.out]; exact hk)); clear hqf hk
        have HS := Lib.hid (And.intro t5 (And.intro t6 r5)); clear t5 t6 r5
        obtain ⟨q2, c2, a2, v2, v2'⟩ := ans_add q1 ⟨s', m, f0⟩ true HS.out.2.2.den HP.out.2.2.den
        have V2 := Lib.hid (And.intro v2 v2'); clear v2 v2'
        rw [sub_back (a := ⟨s, n, d0⟩) HQ.out.2.2 HP.out.2.2 HF1.out.1] at a2
        obtain ⟨ov2, hk2⟩ : ∃ k, (decide (Top ≤ q1.n * f0 + m * q1.d) || decide (Top ≤ q1.d * f0)) = k := ⟨_, rfl⟩
        have A2 := Lib.hid (show Ans q2 ⟨s, n, d0⟩ c2 ov2 by rw [← hk2]; exact a2); clear a2 hk2
        go_wp2_with fail
        refine (sub_of q1.s s' As At A' B' _ _ _ _ cs ct c' d' _ (add_q (q := q2) (e := c2) true As At A' B' cs ct c' d' q1 ⟨s', m, f0⟩ _ Rs.out Rt.out R3.out R4.out HCs.out HCt.out KC.out.2.2.1 KC.out.2.2.2 HS.out.1 HS.out.2.1 HP.out.1 HP.out.2.1 HS.out.2.2 HP.out.2.2 V2.out.1 V2.out.2)).mono ?_
        rintro e w2 ⟨vx, vy, rfl, hnx, hny, hbl⟩
        replace R1 := Lib.hid (R1.out.below hbl)
        replace R2 := Lib.hid (R2.out.below hbl)
        replace R3 := Lib.hid (R3.out.below hbl)
        replace R4 := Lib.hid (R4.out.below hbl)
        replace Rs := Lib.hid (Rs.out.below hbl)
        replace HNs := Lib.hid (HNs.out.below hbl)
        replace Rt := Lib.hid (Rt.out.below hbl)
        replace HNt := Lib.hid (HNt.out.below hbl)
        replace CX := Lib.hid (CX.out.below hbl CX.out.lt)
        replace CY := Lib.hid (CY.out.below hbl CY.out.lt)
        replace VS := Lib.hid (VS.out.below hbl VS.out.lt)
        replace HW := Lib.hid (bel_trans HW.out hbl); clear hbl
        clear CX0 CX1 CX2 CY0 CY1 CY2 VS0 VS1 VS2
        have CX0 : w2.cell? ⟨w.heap.size, 0, none⟩ = some (.bool s) := CX.out.cell 0
        have CX1 : w2.cell? ⟨w.heap.size, 1, none⟩ = some (.slice A (limbs n).length c) := CX.out.cell 1
        have CX2 : w2.cell? ⟨w.heap.size, 2, none⟩ = some (.slice B (limbs d0).length d) := CX.out.cell 2
        have CY0 : w2.cell? ⟨w.heap.size + 1, 0, none⟩ = some (.bool s') := CY.out.cell 0
        have CY1 : w2.cell? ⟨w.heap.size + 1, 1, none⟩ = some (.slice A' (limbs m).length c') := CY.out.cell 1
        have CY2 : w2.cell? ⟨w.heap.size + 1, 2, none⟩ = some (.slice B' (limbs f0).length d') := CY.out.cell 2
        have VS0 : w2.cell? ⟨w1.heap.size, 0, none⟩ = some (.bool q1.s) := VS.out.cell 0
        have VS1 : w2.cell? ⟨w1.heap.size, 1, none⟩ = some (.slice As (limbs q1.n).length cs) := VS.out.cell 1
        have VS2 : w2.cell? ⟨w1.heap.size, 2, none⟩ = some (.slice At (limbs q1.d).length ct) := VS.out.cell 2
        have HNx := Lib.hid hnx; clear hnx
        obtain ⟨Ax, cx, rfl, hcx, hrx⟩ := HNx.out.row
        have Rx := Lib.hid hrx; have HCx := Lib.hid hcx; clear hrx hcx
        have HNy := Lib.hid hny; clear hny
        obtain ⟨Ay, cy, rfl, hcy, hry⟩ := HNy.out.row
        have Ry := Lib.hid hry; have HCy := Lib.hid hcy; clear hry hcy
        go_upto_region 5 with fail
        obtain ⟨wx, hwx⟩ : ∃ wx, wx = w2.alloc (.cells #[.bool q2.s, .slice Ax (limbs q2.n).length cx, .slice Ay (limbs q2.d).length cy] 25) := ⟨_, rfl⟩
        rw [← hwx]
        have hbl : Below w2.heap.size w2 wx := by rw [hwx]; exact bel_alloc (bel_refl _) _
        have VX : Blk wx (w2.heap.size) 25 #[.bool q2.s, .slice Ax (limbs q2.n).length cx, .slice Ay (limbs q2.d).length cy] := by
          have hz := Blk.new (w2) 25 #[.bool q2.s, .slice Ax (limbs q2.n).length cx, .slice Ay (limbs q2.d).length cy]
          rw [hwx]
          exact hz
        clear hwx
        replace R1 := Lib.hid (R1.out.below hbl)
        replace R2 := Lib.hid (R2.out.below hbl)
        replace R3 := Lib.hid (R3.out.below hbl)
        replace R4 := Lib.hid (R4.out.below hbl)
        replace Rs := Lib.hid (Rs.out.below hbl)
        replace HNs := Lib.hid (HNs.out.below hbl)
        replace Rt := Lib.hid (Rt.out.below hbl)
        replace HNt := Lib.hid (HNt.out.below hbl)
        replace Rx := Lib.hid (Rx.out.below hbl)
        replace HNx := Lib.hid (HNx.out.below hbl)
        replace Ry := Lib.hid (Ry.out.below hbl)
        replace HNy := Lib.hid (HNy.out.below hbl)
        replace CX := Lib.hid (CX.out.below hbl CX.out.lt)
        replace CY := Lib.hid (CY.out.below hbl CY.out.lt)
        replace VS := Lib.hid (VS.out.below hbl VS.out.lt)
        replace HW := Lib.hid (bel_trans HW.out hbl); clear hbl
        replace VX := Lib.hid VX
        clear CX0 CX1 CX2 CY0 CY1 CY2 VS0 VS1 VS2
        have CX0 : wx.cell? ⟨w.heap.size, 0, none⟩ = some (.bool s) := CX.out.cell 0
        have CX1 : wx.cell? ⟨w.heap.size, 1, none⟩ = some (.slice A (limbs n).length c) := CX.out.cell 1
        have CX2 : wx.cell? ⟨w.heap.size, 2, none⟩ = some (.slice B (limbs d0).length d) := CX.out.cell 2
        have CY0 : wx.cell? ⟨w.heap.size + 1, 0, none⟩ = some (.bool s') := CY.out.cell 0
        have CY1 : wx.cell? ⟨w.heap.size + 1, 1, none⟩ = some (.slice A' (limbs m).length c') := CY.out.cell 1
        have CY2 : wx.cell? ⟨w.heap.size + 1, 2, none⟩ = some (.slice B' (limbs f0).length d') := CY.out.cell 2
        have VS0 : wx.cell? ⟨w1.heap.size, 0, none⟩ = some (.bool q1.s) := VS.out.cell 0
        have VS1 : wx.cell? ⟨w1.heap.size, 1, none⟩ = some (.slice As (limbs q1.n).length cs) := VS.out.cell 1
        have VS2 : wx.cell? ⟨w1.heap.size, 2, none⟩ = some (.slice At (limbs q1.d).length ct) := VS.out.cell 2
        have VX0 : wx.cell? ⟨w2.heap.size, 0, none⟩ = some (.bool q2.s) := VX.out.cell 0
        have VX1 : wx.cell? ⟨w2.heap.size, 1, none⟩ = some (.slice Ax (limbs q2.n).length cx) := VX.out.cell 1
        have VX2 : wx.cell? ⟨w2.heap.size, 2, none⟩ = some (.slice Ay (limbs q2.d).length cy) := VX.out.cell 2
        go_wp2_with fail
        refine (add_of s' s A' B' A B _ _ _ _ c' d' c d _ (add_q (q := q1) (e := 0) false A' B' A B c' d' c d ⟨s', m, f0⟩ ⟨s, n, d0⟩ _ R3.out R4.out R1.out R2.out KC.out.2.2.1 KC.out.2.2.2 KC.out.1 KC.out.2.1 HP.out.1 HP.out.2.1 HQ.out.1 HQ.out.2.1 HP.out.2.2 HQ.out.2.2 (add_turn HQ.out.2.2 HP.out.2.2 HF1.out.1 HF1.out.2).1 (add_turn HQ.out.2.2 HP.out.2.2 HF1.out.1 HF1.out.2).2)).mono ?_
        rintro e w3 ⟨vu, vv, rfl, hnu, hnv, hbl⟩
        replace R1 := Lib.hid (R1.out.below hbl)
        replace R2 := Lib.hid (R2.out.below hbl)
        replace R3 := Lib.hid (R3.out.below hbl)
        replace R4 := Lib.hid (R4.out.below hbl)
        replace Rs := Lib.hid (Rs.out.below hbl)
        replace HNs := Lib.hid (HNs.out.below hbl)
        replace Rt := Lib.hid (Rt.out.below hbl)
        replace HNt := Lib.hid (HNt.out.below hbl)
        replace Rx := Lib.hid (Rx.out.below hbl)
        replace HNx := Lib.hid (HNx.out.below hbl)
        replace Ry := Lib.hid (Ry.out.below hbl)
        replace HNy := Lib.hid (HNy.out.below hbl)
        replace CX := Lib.hid (CX.out.below hbl CX.out.lt)
        replace CY := Lib.hid (CY.out.below hbl CY.out.lt)
        replace VS := Lib.hid (VS.out.below hbl VS.out.lt)
        replace VX := Lib.hid (VX.out.below hbl VX.out.lt)
        replace HW := Lib.hid (bel_trans HW.out hbl); clear hbl
        clear CX0 CX1 CX2 CY0 CY1 CY2 VS0 VS1 VS2 VX0 VX1 VX2
        have CX0 : w3.cell? ⟨w.heap.size, 0, none⟩ = some (.bool s) := CX.out.cell 0
        have CX1 : w3.cell? ⟨w.heap.size, 1, none⟩ = some (.slice A (limbs n).length c) := CX.out.cell 1
        have CX2 : w3.cell? ⟨w.heap.size, 2, none⟩ = some (.slice B (limbs d0).length d) := CX.out.cell 2
        have CY0 : w3.cell? ⟨w.heap.size + 1, 0, none⟩ = some (.bool s') := CY.out.cell 0
        have CY1 : w3.cell? ⟨w.heap.size + 1, 1, none⟩ = some (.slice A' (limbs m).length c') := CY.out.cell 1
        have CY2 : w3.cell? ⟨w.heap.size + 1, 2, none⟩ = some (.slice B' (limbs f0).length d') := CY.out.cell 2
        have VS0 : w3.cell? ⟨w1.heap.size, 0, none⟩ = some (.bool q1.s) := VS.out.cell 0
        have VS1 : w3.cell? ⟨w1.heap.size, 1, none⟩ = some (.slice As (limbs q1.n).length cs) := VS.out.cell 1
        have VS2 : w3.cell? ⟨w1.heap.size, 2, none⟩ = some (.slice At (limbs q1.d).length ct) := VS.out.cell 2
        have VX0 : w3.cell? ⟨w2.heap.size, 0, none⟩ = some (.bool q2.s) := VX.out.cell 0
        have VX1 : w3.cell? ⟨w2.heap.size, 1, none⟩ = some (.slice Ax (limbs q2.n).length cx) := VX.out.cell 1
        have VX2 : w3.cell? ⟨w2.heap.size, 2, none⟩ = some (.slice Ay (limbs q2.d).length cy) := VX.out.cell 2
        have HNu := Lib.hid hnu; clear hnu
        obtain ⟨Au, cu, rfl, hcu, hru⟩ := HNu.out.row
        have Ru := Lib.hid hru; have HCu := Lib.hid hcu; clear hru hcu
        have HNv := Lib.hid hnv; clear hnv
        obtain ⟨Av, cv, rfl, hcv, hrv⟩ := HNv.out.row
        have Rv := Lib.hid hrv; have HCv := Lib.hid hcv; clear hrv hcv
        go_upto_region 6 with fail
        obtain ⟨wy, hwy⟩ : ∃ wy, wy = w3.alloc (.cells #[.bool q1.s, .slice Au (limbs q1.n).length cu, .slice Av (limbs q1.d).length cv] 25) := ⟨_, rfl⟩
        rw [← hwy]
        have hbl : Below w3.heap.size w3 wy := by rw [hwy]; exact bel_alloc (bel_refl _) _
        have VY : Blk wy (w3.heap.size) 25 #[.bool q1.s, .slice Au (limbs q1.n).length cu, .slice Av (limbs q1.d).length cv] := by
          have hz := Blk.new (w3) 25 #[.bool q1.s, .slice Au (limbs q1.n).length cu, .slice Av (limbs q1.d).length cv]
          rw [hwy]
          exact hz
        clear hwy
        replace R1 := Lib.hid (R1.out.below hbl)
        replace R2 := Lib.hid (R2.out.below hbl)
        replace R3 := Lib.hid (R3.out.below hbl)
        replace R4 := Lib.hid (R4.out.below hbl)
        replace Rs := Lib.hid (Rs.out.below hbl)
        replace HNs := Lib.hid (HNs.out.below hbl)
        replace Rt := Lib.hid (Rt.out.below hbl)
        replace HNt := Lib.hid (HNt.out.below hbl)
        replace Rx := Lib.hid (Rx.out.below hbl)
        replace HNx := Lib.hid (HNx.out.below hbl)
        replace Ry := Lib.hid (Ry.out.below hbl)
        replace HNy := Lib.hid (HNy.out.below hbl)
        replace Ru := Lib.hid (Ru.out.below hbl)
        replace HNu := Lib.hid (HNu.out.below hbl)
        replace Rv := Lib.hid (Rv.out.below hbl)
        replace HNv := Lib.hid (HNv.out.below hbl)
        replace CX := Lib.hid (CX.out.below hbl CX.out.lt)
        replace CY := Lib.hid (CY.out.below hbl CY.out.lt)
        replace VS := Lib.hid (VS.out.below hbl VS.out.lt)
        replace VX := Lib.hid (VX.out.below hbl VX.out.lt)
        replace HW := Lib.hid (bel_trans HW.out hbl); clear hbl
        replace VY := Lib.hid VY
        clear CX0 CX1 CX2 CY0 CY1 CY2 VS0 VS1 VS2 VX0 VX1 VX2
        have CX0 : wy.cell? ⟨w.heap.size, 0, none⟩ = some (.bool s) := CX.out.cell 0
        have CX1 : wy.cell? ⟨w.heap.size, 1, none⟩ = some (.slice A (limbs n).length c) := CX.out.cell 1
        have CX2 : wy.cell? ⟨w.heap.size, 2, none⟩ = some (.slice B (limbs d0).length d) := CX.out.cell 2
        have CY0 : wy.cell? ⟨w.heap.size + 1, 0, none⟩ = some (.bool s') := CY.out.cell 0
        have CY1 : wy.cell? ⟨w.heap.size + 1, 1, none⟩ = some (.slice A' (limbs m).length c') := CY.out.cell 1
        have CY2 : wy.cell? ⟨w.heap.size + 1, 2, none⟩ = some (.slice B' (limbs f0).length d') := CY.out.cell 2
        have VS0 : wy.cell? ⟨w1.heap.size, 0, none⟩ = some (.bool q1.s) := VS.out.cell 0
        have VS1 : wy.cell? ⟨w1.heap.size, 1, none⟩ = some (.slice As (limbs q1.n).length cs) := VS.out.cell 1
        have VS2 : wy.cell? ⟨w1.heap.size, 2, none⟩ = some (.slice At (limbs q1.d).length ct) := VS.out.cell 2
        have VX0 : wy.cell? ⟨w2.heap.size, 0, none⟩ = some (.bool q2.s) := VX.out.cell 0
        have VX1 : wy.cell? ⟨w2.heap.size, 1, none⟩ = some (.slice Ax (limbs q2.n).length cx) := VX.out.cell 1
        have VX2 : wy.cell? ⟨w2.heap.size, 2, none⟩ = some (.slice Ay (limbs q2.d).length cy) := VX.out.cell 2
        have VY0 : wy.cell? ⟨w3.heap.size, 0, none⟩ = some (.bool q1.s) := VY.out.cell 0
        have VY1 : wy.cell? ⟨w3.heap.size, 1, none⟩ = some (.slice Au (limbs q1.n).length cu) := VY.out.cell 1
        have VY2 : wy.cell? ⟨w3.heap.size, 2, none⟩ = some (.slice Av (limbs q1.d).length cv) := VY.out.cell 2
        rcases (show ov2 = true ∨ ov2 = false by cases ov2 <;> simp) with hk | hk
        · obtain ⟨rfl, rfl⟩ := A2.out.over hk
          clear hk
          go_wp2_with fail
          refine (ratRight_q q1 As At cs ct _ Rs.out Rt.out HCs.out HCt.out HS.out.1 HS.out.2.1 HS.out.2.2).mono ?_
          rintro e w4 ⟨rfl, hbl⟩
          replace R1 := Lib.hid (R1.out.below hbl)
          replace R2 := Lib.hid (R2.out.below hbl)
          replace R3 := Lib.hid (R3.out.below hbl)
          replace R4 := Lib.hid (R4.out.below hbl)
          replace Rs := Lib.hid (Rs.out.below hbl)
          replace HNs := Lib.hid (HNs.out.below hbl)
          replace Rt := Lib.hid (Rt.out.below hbl)
          replace HNt := Lib.hid (HNt.out.below hbl)
          replace Rx := Lib.hid (Rx.out.below hbl)
          replace HNx := Lib.hid (HNx.out.below hbl)
          replace Ry := Lib.hid (Ry.out.below hbl)
          replace HNy := Lib.hid (HNy.out.below hbl)
          replace Ru := Lib.hid (Ru.out.below hbl)
          replace HNu := Lib.hid (HNu.out.below hbl)
          replace Rv := Lib.hid (Rv.out.below hbl)
          replace HNv := Lib.hid (HNv.out.below hbl)
          replace CX := Lib.hid (CX.out.below hbl CX.out.lt)
          replace CY := Lib.hid (CY.out.below hbl CY.out.lt)
          replace VS := Lib.hid (VS.out.below hbl VS.out.lt)
          replace VX := Lib.hid (VX.out.below hbl VX.out.lt)
          replace VY := Lib.hid (VY.out.below hbl VY.out.lt)
          replace HW := Lib.hid (bel_trans HW.out hbl); clear hbl
          clear CX0 CX1 CX2 CY0 CY1 CY2 VS0 VS1 VS2 VX0 VX1 VX2 VY0 VY1 VY2
          have CX0 : w4.cell? ⟨w.heap.size, 0, none⟩ = some (.bool s) := CX.out.cell 0
          have CX1 : w4.cell? ⟨w.heap.size, 1, none⟩ = some (.slice A (limbs n).length c) := CX.out.cell 1
          have CX2 : w4.cell? ⟨w.heap.size, 2, none⟩ = some (.slice B (limbs d0).length d) := CX.out.cell 2
          have CY0 : w4.cell? ⟨w.heap.size + 1, 0, none⟩ = some (.bool s') := CY.out.cell 0
          have CY1 : w4.cell? ⟨w.heap.size + 1, 1, none⟩ = some (.slice A' (limbs m).length c') := CY.out.cell 1
          have CY2 : w4.cell? ⟨w.heap.size + 1, 2, none⟩ = some (.slice B' (limbs f0).length d') := CY.out.cell 2
          have VS0 : w4.cell? ⟨w1.heap.size, 0, none⟩ = some (.bool q1.s) := VS.out.cell 0
          have VS1 : w4.cell? ⟨w1.heap.size, 1, none⟩ = some (.slice As (limbs q1.n).length cs) := VS.out.cell 1
          have VS2 : w4.cell? ⟨w1.heap.size, 2, none⟩ = some (.slice At (limbs q1.d).length ct) := VS.out.cell 2
          have VY0 : w4.cell? ⟨w3.heap.size, 0, none⟩ = some (.bool q1.s) := VY.out.cell 0
          have VY1 : w4.cell? ⟨w3.heap.size, 1, none⟩ = some (.slice Au (limbs q1.n).length cu) := VY.out.cell 1
          have VY2 : w4.cell? ⟨w3.heap.size, 2, none⟩ = some (.slice Av (limbs q1.d).length cv) := VY.out.cell 2
          go_wp2_with fail
          refine (refSame_ok (b := true) q1.s q1.s Au Av As At cu cv cs ct (limbs q1.n) (limbs q1.d) (limbs q1.n) (limbs q1.d) _ Ru.out Rs.out (len18 HS.out.1) Rv.out Rt.out (len18 HS.out.2.1) (like_self _ _ _)).mono ?_
          rintro e w5 ⟨rfl, hbl⟩
          replace R1 := Lib.hid (R1.out.below hbl)
          replace R2 := Lib.hid (R2.out.below hbl)
          replace R3 := Lib.hid (R3.out.below hbl)
          replace R4 := Lib.hid (R4.out.below hbl)
          replace Rs := Lib.hid (Rs.out.below hbl)
          replace HNs := Lib.hid (HNs.out.below hbl)
          replace Rt := Lib.hid (Rt.out.below hbl)
          replace HNt := Lib.hid (HNt.out.below hbl)
          replace Rx := Lib.hid (Rx.out.below hbl)
          replace HNx := Lib.hid (HNx.out.below hbl)
          replace Ry := Lib.hid (Ry.out.below hbl)
          replace HNy := Lib.hid (HNy.out.below hbl)
          replace Ru := Lib.hid (Ru.out.below hbl)
          replace HNu := Lib.hid (HNu.out.below hbl)
          replace Rv := Lib.hid (Rv.out.below hbl)
          replace HNv := Lib.hid (HNv.out.below hbl)
          replace CX := Lib.hid (CX.out.below hbl CX.out.lt)
          replace CY := Lib.hid (CY.out.below hbl CY.out.lt)
          replace VS := Lib.hid (VS.out.below hbl VS.out.lt)
          replace VX := Lib.hid (VX.out.below hbl VX.out.lt)
          replace VY := Lib.hid (VY.out.below hbl VY.out.lt)
          replace HW := Lib.hid (bel_trans HW.out hbl); clear hbl
          clear CX0 CX1 CX2 CY0 CY1 CY2 VS0 VS1 VS2 VY0 VY1 VY2
          have CX0 : w5.cell? ⟨w.heap.size, 0, none⟩ = some (.bool s) := CX.out.cell 0
          have CX1 : w5.cell? ⟨w.heap.size, 1, none⟩ = some (.slice A (limbs n).length c) := CX.out.cell 1
          have CX2 : w5.cell? ⟨w.heap.size, 2, none⟩ = some (.slice B (limbs d0).length d) := CX.out.cell 2
          have CY0 : w5.cell? ⟨w.heap.size + 1, 0, none⟩ = some (.bool s') := CY.out.cell 0
          have CY1 : w5.cell? ⟨w.heap.size + 1, 1, none⟩ = some (.slice A' (limbs m).length c') := CY.out.cell 1
          have CY2 : w5.cell? ⟨w.heap.size + 1, 2, none⟩ = some (.slice B' (limbs f0).length d') := CY.out.cell 2
          have VS0 : w5.cell? ⟨w1.heap.size, 0, none⟩ = some (.bool q1.s) := VS.out.cell 0
          have VS1 : w5.cell? ⟨w1.heap.size, 1, none⟩ = some (.slice As (limbs q1.n).length cs) := VS.out.cell 1
          have VS2 : w5.cell? ⟨w1.heap.size, 2, none⟩ = some (.slice At (limbs q1.d).length ct) := VS.out.cell 2
          have VY0 : w5.cell? ⟨w3.heap.size, 0, none⟩ = some (.bool q1.s) := VY.out.cell 0
          have VY1 : w5.cell? ⟨w3.heap.size, 1, none⟩ = some (.slice Au (limbs q1.n).length cu) := VY.out.cell 1
          have VY2 : w5.cell? ⟨w3.heap.size, 2, none⟩ = some (.slice Av (limbs q1.d).length cv) := VY.out.cell 2
          go_wp2_with fail
          go_meet
          exact ⟨HW.out, CX.out, CY.out, R1.out, R2.out, R3.out, R4.out⟩
        · obtain ⟨rfl, hqf, t5, t6, r5⟩ := A2.out.good hk
          have HX := Lib.hid (And.intro hqf (len18 t5)); clear hqf hk t6 r5
          have HX2 := Lib.hid (show (limbs q2.d).length ≤ 18 by rw [HX.out.1]; exact L18.out.2.1)
          clear t5
          go_wp2_with fail
          refine (ratRight_q q1 As At cs ct _ Rs.out Rt.out HCs.out HCt.out HS.out.1 HS.out.2.1 HS.out.2.2).mono ?_
          rintro e w4 ⟨rfl, hbl⟩
          replace R1 := Lib.hid (R1.out.below hbl)
          replace R2 := Lib.hid (R2.out.below hbl)
          replace R3 := Lib.hid (R3.out.below hbl)
          replace R4 := Lib.hid (R4.out.below hbl)
          replace Rs := Lib.hid (Rs.out.below hbl)
          replace HNs := Lib.hid (HNs.out.below hbl)
          replace Rt := Lib.hid (Rt.out.below hbl)
          replace HNt := Lib.hid (HNt.out.below hbl)
          replace Rx := Lib.hid (Rx.out.below hbl)
          replace HNx := Lib.hid (HNx.out.below hbl)
          replace Ry := Lib.hid (Ry.out.below hbl)
          replace HNy := Lib.hid (HNy.out.below hbl)
          replace Ru := Lib.hid (Ru.out.below hbl)
          replace HNu := Lib.hid (HNu.out.below hbl)
          replace Rv := Lib.hid (Rv.out.below hbl)
          replace HNv := Lib.hid (HNv.out.below hbl)
          replace CX := Lib.hid (CX.out.below hbl CX.out.lt)
          replace CY := Lib.hid (CY.out.below hbl CY.out.lt)
          replace VS := Lib.hid (VS.out.below hbl VS.out.lt)
          replace VX := Lib.hid (VX.out.below hbl VX.out.lt)
          replace VY := Lib.hid (VY.out.below hbl VY.out.lt)
          replace HW := Lib.hid (bel_trans HW.out hbl); clear hbl
          clear CX0 CX1 CX2 CY0 CY1 CY2 VS0 VS1 VS2 VX0 VX1 VX2 VY0 VY1 VY2
          have CX0 : w4.cell? ⟨w.heap.size, 0, none⟩ = some (.bool s) := CX.out.cell 0
          have CX1 : w4.cell? ⟨w.heap.size, 1, none⟩ = some (.slice A (limbs n).length c) := CX.out.cell 1
          have CX2 : w4.cell? ⟨w.heap.size, 2, none⟩ = some (.slice B (limbs d0).length d) := CX.out.cell 2
          have CY0 : w4.cell? ⟨w.heap.size + 1, 0, none⟩ = some (.bool s') := CY.out.cell 0
          have CY1 : w4.cell? ⟨w.heap.size + 1, 1, none⟩ = some (.slice A' (limbs m).length c') := CY.out.cell 1
          have CY2 : w4.cell? ⟨w.heap.size + 1, 2, none⟩ = some (.slice B' (limbs f0).length d') := CY.out.cell 2
          have VS0 : w4.cell? ⟨w1.heap.size, 0, none⟩ = some (.bool q1.s) := VS.out.cell 0
          have VS1 : w4.cell? ⟨w1.heap.size, 1, none⟩ = some (.slice As (limbs q1.n).length cs) := VS.out.cell 1
          have VS2 : w4.cell? ⟨w1.heap.size, 2, none⟩ = some (.slice At (limbs q1.d).length ct) := VS.out.cell 2
          have VX0 : w4.cell? ⟨w2.heap.size, 0, none⟩ = some (.bool q2.s) := VX.out.cell 0
          have VX1 : w4.cell? ⟨w2.heap.size, 1, none⟩ = some (.slice Ax (limbs q2.n).length cx) := VX.out.cell 1
          have VX2 : w4.cell? ⟨w2.heap.size, 2, none⟩ = some (.slice Ay (limbs q2.d).length cy) := VX.out.cell 2
          have VY0 : w4.cell? ⟨w3.heap.size, 0, none⟩ = some (.bool q1.s) := VY.out.cell 0
          have VY1 : w4.cell? ⟨w3.heap.size, 1, none⟩ = some (.slice Au (limbs q1.n).length cu) := VY.out.cell 1
          have VY2 : w4.cell? ⟨w3.heap.size, 2, none⟩ = some (.slice Av (limbs q1.d).length cv) := VY.out.cell 2
          go_wp2_with fail
          refine (refSame_ok (b := true) q2.s s Ax Ay A B cx cy c d (limbs q2.n) (limbs q2.d) (limbs n) (limbs d0) _ Rx.out R1.out HX.out.2 Ry.out R2.out HX2.out (by rw [HX.out.1]; exact like_self _ _ _)).mono ?_
          rintro e w5 ⟨rfl, hbl⟩
          replace R1 := Lib.hid (R1.out.below hbl)
          replace R2 := Lib.hid (R2.out.below hbl)
          replace R3 := Lib.hid (R3.out.below hbl)
          replace R4 := Lib.hid (R4.out.below hbl)
          replace Rs := Lib.hid (Rs.out.below hbl)
          replace HNs := Lib.hid (HNs.out.below hbl)
          replace Rt := Lib.hid (Rt.out.below hbl)
          replace HNt := Lib.hid (HNt.out.below hbl)
          replace Rx := Lib.hid (Rx.out.below hbl)
          replace HNx := Lib.hid (HNx.out.below hbl)
          replace Ry := Lib.hid (Ry.out.below hbl)
          replace HNy := Lib.hid (HNy.out.below hbl)
          replace Ru := Lib.hid (Ru.out.below hbl)
          replace HNu := Lib.hid (HNu.out.below hbl)
          replace Rv := Lib.hid (Rv.out.below hbl)
          replace HNv := Lib.hid (HNv.out.below hbl)
          replace CX := Lib.hid (CX.out.below hbl CX.out.lt)
          replace CY := Lib.hid (CY.out.below hbl CY.out.lt)
          replace VS := Lib.hid (VS.out.below hbl VS.out.lt)
          replace VX := Lib.hid (VX.out.below hbl VX.out.lt)
          replace VY := Lib.hid (VY.out.below hbl VY.out.lt)
          replace HW := Lib.hid (bel_trans HW.out hbl); clear hbl
          clear CX0 CX1 CX2 CY0 CY1 CY2 VS0 VS1 VS2 VX0 VX1 VX2 VY0 VY1 VY2
          have CX0 : w5.cell? ⟨w.heap.size, 0, none⟩ = some (.bool s) := CX.out.cell 0
          have CX1 : w5.cell? ⟨w.heap.size, 1, none⟩ = some (.slice A (limbs n).length c) := CX.out.cell 1
          have CX2 : w5.cell? ⟨w.heap.size, 2, none⟩ = some (.slice B (limbs d0).length d) := CX.out.cell 2
          have CY0 : w5.cell? ⟨w.heap.size + 1, 0, none⟩ = some (.bool s') := CY.out.cell 0
          have CY1 : w5.cell? ⟨w.heap.size + 1, 1, none⟩ = some (.slice A' (limbs m).length c') := CY.out.cell 1
          have CY2 : w5.cell? ⟨w.heap.size + 1, 2, none⟩ = some (.slice B' (limbs f0).length d') := CY.out.cell 2
          have VS0 : w5.cell? ⟨w1.heap.size, 0, none⟩ = some (.bool q1.s) := VS.out.cell 0
          have VS1 : w5.cell? ⟨w1.heap.size, 1, none⟩ = some (.slice As (limbs q1.n).length cs) := VS.out.cell 1
          have VS2 : w5.cell? ⟨w1.heap.size, 2, none⟩ = some (.slice At (limbs q1.d).length ct) := VS.out.cell 2
          have VX0 : w5.cell? ⟨w2.heap.size, 0, none⟩ = some (.bool q2.s) := VX.out.cell 0
          have VX1 : w5.cell? ⟨w2.heap.size, 1, none⟩ = some (.slice Ax (limbs q2.n).length cx) := VX.out.cell 1
          have VX2 : w5.cell? ⟨w2.heap.size, 2, none⟩ = some (.slice Ay (limbs q2.d).length cy) := VX.out.cell 2
          have VY0 : w5.cell? ⟨w3.heap.size, 0, none⟩ = some (.bool q1.s) := VY.out.cell 0
          have VY1 : w5.cell? ⟨w3.heap.size, 1, none⟩ = some (.slice Au (limbs q1.n).length cu) := VY.out.cell 1
          have VY2 : w5.cell? ⟨w3.heap.size, 2, none⟩ = some (.slice Av (limbs q1.d).length cv) := VY.out.cell 2
          go_wp2_with fail
          refine (refSame_ok (b := true) q1.s q1.s Au Av As At cu cv cs ct (limbs q1.n) (limbs q1.d) (limbs q1.n) (limbs q1.d) _ Ru.out Rs.out (len18 HS.out.1) Rv.out Rt.out (len18 HS.out.2.1) (like_self _ _ _)).mono ?_
          rintro e w6 ⟨rfl, hbl⟩
          replace R1 := Lib.hid (R1.out.below hbl)
          replace R2 := Lib.hid (R2.out.below hbl)
          replace R3 := Lib.hid (R3.out.below hbl)
          replace R4 := Lib.hid (R4.out.below hbl)
          replace Rs := Lib.hid (Rs.out.below hbl)
          replace HNs := Lib.hid (HNs.out.below hbl)
          replace Rt := Lib.hid (Rt.out.below hbl)
          replace HNt := Lib.hid (HNt.out.below hbl)
          replace Rx := Lib.hid (Rx.out.below hbl)
          replace HNx := Lib.hid (HNx.out.below hbl)
          replace Ry := Lib.hid (Ry.out.below hbl)
          replace HNy := Lib.hid (HNy.out.below hbl)
          replace Ru := Lib.hid (Ru.out.below hbl)
          replace HNu := Lib.hid (HNu.out.below hbl)
          replace Rv := Lib.hid (Rv.out.below hbl)
          replace HNv := Lib.hid (HNv.out.below hbl)
          replace CX := Lib.hid (CX.out.below hbl CX.out.lt)
          replace CY := Lib.hid (CY.out.below hbl CY.out.lt)
          replace VS := Lib.hid (VS.out.below hbl VS.out.lt)
          replace VX := Lib.hid (VX.out.below hbl VX.out.lt)
          replace VY := Lib.hid (VY.out.below hbl VY.out.lt)
          replace HW := Lib.hid (bel_trans HW.out hbl); clear hbl
          clear CX0 CX1 CX2 CY0 CY1 CY2 VS0 VS1 VS2 VX0 VX1 VX2 VY0 VY1 VY2
          have CX0 : w6.cell? ⟨w.heap.size, 0, none⟩ = some (.bool s) := CX.out.cell 0
          have CX1 : w6.cell? ⟨w.heap.size, 1, none⟩ = some (.slice A (limbs n).length c) := CX.out.cell 1
          have CX2 : w6.cell? ⟨w.heap.size, 2, none⟩ = some (.slice B (limbs d0).length d) := CX.out.cell 2
          have CY0 : w6.cell? ⟨w.heap.size + 1, 0, none⟩ = some (.bool s') := CY.out.cell 0
          have CY1 : w6.cell? ⟨w.heap.size + 1, 1, none⟩ = some (.slice A' (limbs m).length c') := CY.out.cell 1
          have CY2 : w6.cell? ⟨w.heap.size + 1, 2, none⟩ = some (.slice B' (limbs f0).length d') := CY.out.cell 2
          have VS0 : w6.cell? ⟨w1.heap.size, 0, none⟩ = some (.bool q1.s) := VS.out.cell 0
          have VS1 : w6.cell? ⟨w1.heap.size, 1, none⟩ = some (.slice As (limbs q1.n).length cs) := VS.out.cell 1
          have VS2 : w6.cell? ⟨w1.heap.size, 2, none⟩ = some (.slice At (limbs q1.d).length ct) := VS.out.cell 2
          have VX0 : w6.cell? ⟨w2.heap.size, 0, none⟩ = some (.bool q2.s) := VX.out.cell 0
          have VX1 : w6.cell? ⟨w2.heap.size, 1, none⟩ = some (.slice Ax (limbs q2.n).length cx) := VX.out.cell 1
          have VX2 : w6.cell? ⟨w2.heap.size, 2, none⟩ = some (.slice Ay (limbs q2.d).length cy) := VX.out.cell 2
          have VY0 : w6.cell? ⟨w3.heap.size, 0, none⟩ = some (.bool q1.s) := VY.out.cell 0
          have VY1 : w6.cell? ⟨w3.heap.size, 1, none⟩ = some (.slice Au (limbs q1.n).length cu) := VY.out.cell 1
          have VY2 : w6.cell? ⟨w3.heap.size, 2, none⟩ = some (.slice Av (limbs q1.d).length cv) := VY.out.cell 2
          go_wp2_with fail
          go_meet
          exact ⟨HW.out, CX.out, CY.out, R1.out, R2.out, R3.out, R4.out⟩
    case rest =>
      have HW := Lib.hid hcut.old
      have CX := Lib.hid hcut.cx
      have CY := Lib.hid hcut.cy
      have R1 := Lib.hid hcut.r1
      have R2 := Lib.hid hcut.r2
      have R3 := Lib.hid hcut.r3
      have R4 := Lib.hid hcut.r4
      clear hcut
      have CX0 : wc.cell? ⟨w.heap.size, 0, none⟩ = some (.bool s) := CX.out.cell 0
      have CX1 : wc.cell? ⟨w.heap.size, 1, none⟩ = some (.slice A (limbs n).length c) := CX.out.cell 1
      have CX2 : wc.cell? ⟨w.heap.size, 2, none⟩ = some (.slice B (limbs d0).length d) := CX.out.cell 2
      have CY0 : wc.cell? ⟨w.heap.size + 1, 0, none⟩ = some (.bool s') := CY.out.cell 0
      have CY1 : wc.cell? ⟨w.heap.size + 1, 1, none⟩ = some (.slice A' (limbs m).length c') := CY.out.cell 1
      have CY2 : wc.cell? ⟨w.heap.size + 1, 2, none⟩ = some (.slice B' (limbs f0).length d') := CY.out.cell 2
      go_wp2_with fail
      refine (mul_walk A B A' B' c d c' d' ⟨s, n, d0⟩ ⟨s', m, f0⟩ _ R1.out R2.out R3.out R4.out KC.out.1 KC.out.2.1 KC.out.2.2.1 KC.out.2.2.2 HQ.out.1 HQ.out.2.1 HP.out.1 HP.out.2.1 HQ.out.2.2 HP.out.2.2 V3.out.1 V3.out.2).mono ?_
      rintro e w2 ⟨vp, vr, rfl, hnp, hnr, hbl⟩
      replace R1 := Lib.hid (R1.out.below hbl)
      replace R2 := Lib.hid (R2.out.below hbl)
      replace R3 := Lib.hid (R3.out.below hbl)
      replace R4 := Lib.hid (R4.out.below hbl)
      replace CX := Lib.hid (CX.out.below hbl CX.out.lt)
      replace CY := Lib.hid (CY.out.below hbl CY.out.lt)
      replace HW := Lib.hid (bel_trans HW.out hbl); clear hbl
      clear CX0 CX1 CX2 CY0 CY1 CY2
      have CX0 : w2.cell? ⟨w.heap.size, 0, none⟩ = some (.bool s) := CX.out.cell 0
      have CX1 : w2.cell? ⟨w.heap.size, 1, none⟩ = some (.slice A (limbs n).length c) := CX.out.cell 1
      have CX2 : w2.cell? ⟨w.heap.size, 2, none⟩ = some (.slice B (limbs d0).length d) := CX.out.cell 2
      have CY0 : w2.cell? ⟨w.heap.size + 1, 0, none⟩ = some (.bool s') := CY.out.cell 0
      have CY1 : w2.cell? ⟨w.heap.size + 1, 1, none⟩ = some (.slice A' (limbs m).length c') := CY.out.cell 1
      have CY2 : w2.cell? ⟨w.heap.size + 1, 2, none⟩ = some (.slice B' (limbs f0).length d') := CY.out.cell 2
      have HNp := Lib.hid hnp; clear hnp
      obtain ⟨Ap, cp, rfl, hcp, hrp⟩ := HNp.out.row
      have Rp := Lib.hid hrp; have HCp := Lib.hid hcp; clear hrp hcp
      have HNr := Lib.hid hnr; clear hnr
      obtain ⟨Ar, cr, rfl, hcr, hrr⟩ := HNr.out.row
      have Rr := Lib.hid hrr; have HCr := Lib.hid hcr; clear hrr hcr
      go_upto_region 9 with fail
      obtain ⟨wp, hwp⟩ : ∃ wp, wp = w2.alloc (.cells #[.bool q3.s, .slice Ap (limbs q3.n).length cp, .slice Ar (limbs q3.d).length cr] 25) := ⟨_, rfl⟩
      rw [← hwp]
      have hbl : Below w2.heap.size w2 wp := by rw [hwp]; exact bel_alloc (bel_refl _) _
      have VP : Blk wp (w2.heap.size) 25 #[.bool q3.s, .slice Ap (limbs q3.n).length cp, .slice Ar (limbs q3.d).length cr] := by
        have hz := Blk.new (w2) 25 #[.bool q3.s, .slice Ap (limbs q3.n).length cp, .slice Ar (limbs q3.d).length cr]
        rw [hwp]
        exact hz
      clear hwp
      replace R1 := Lib.hid (R1.out.below hbl)
      replace R2 := Lib.hid (R2.out.below hbl)
      replace R3 := Lib.hid (R3.out.below hbl)
      replace R4 := Lib.hid (R4.out.below hbl)
      replace Rp := Lib.hid (Rp.out.below hbl)
      replace HNp := Lib.hid (HNp.out.below hbl)
      replace Rr := Lib.hid (Rr.out.below hbl)
      replace HNr := Lib.hid (HNr.out.below hbl)
      replace CX := Lib.hid (CX.out.below hbl CX.out.lt)
      replace CY := Lib.hid (CY.out.below hbl CY.out.lt)
      replace HW := Lib.hid (bel_trans HW.out hbl); clear hbl
      replace VP := Lib.hid VP
      clear CX0 CX1 CX2 CY0 CY1 CY2
      have CX0 : wp.cell? ⟨w.heap.size, 0, none⟩ = some (.bool s) := CX.out.cell 0
      have CX1 : wp.cell? ⟨w.heap.size, 1, none⟩ = some (.slice A (limbs n).length c) := CX.out.cell 1
      have CX2 : wp.cell? ⟨w.heap.size, 2, none⟩ = some (.slice B (limbs d0).length d) := CX.out.cell 2
      have CY0 : wp.cell? ⟨w.heap.size + 1, 0, none⟩ = some (.bool s') := CY.out.cell 0
      have CY1 : wp.cell? ⟨w.heap.size + 1, 1, none⟩ = some (.slice A' (limbs m).length c') := CY.out.cell 1
      have CY2 : wp.cell? ⟨w.heap.size + 1, 2, none⟩ = some (.slice B' (limbs f0).length d') := CY.out.cell 2
      have VP0 : wp.cell? ⟨w2.heap.size, 0, none⟩ = some (.bool q3.s) := VP.out.cell 0
      have VP1 : wp.cell? ⟨w2.heap.size, 1, none⟩ = some (.slice Ap (limbs q3.n).length cp) := VP.out.cell 1
      have VP2 : wp.cell? ⟨w2.heap.size, 2, none⟩ = some (.slice Ar (limbs q3.d).length cr) := VP.out.cell 2
      rcases (show ov3 = true ∨ ov3 = false by cases ov3 <;> simp) with hk | hk
      · obtain ⟨rfl, rfl⟩ := A3.out.over hk
        clear hk
        go_upto_region 13 with fail
        by_cases hfit : n * f0 < Top ∧ m * d0 < Top
        · obtain ⟨v, hv⟩ : ∃ v, cmpS s s' (n * f0) (m * d0) = v := ⟨_, rfl⟩
          have g0 : IntKind.i64.wrap v = v := by rw [← hv]; have := wrap_cmpS s' s (m * d0) (n * f0); rw [cmp_turned (a := ⟨s, n, d0⟩) HQ.out.2.2 HP.out.2.2 hv] at this; simpa [hv] using this
          have HV := Lib.hid (And.intro hv hfit); clear hv hfit
          go_wp2_with fail
          refine (qcmp_is (v := v) A B A' B' c d c' d' ⟨s, n, d0⟩ ⟨s', m, f0⟩ _ R1.out R2.out R3.out R4.out KC.out.1 KC.out.2.1 KC.out.2.2.1 KC.out.2.2.2 HQ.out.1 HQ.out.2.1 HP.out.1 HP.out.2.1 HQ.out.2.2 HP.out.2.2 HV.out.2 HV.out.1).mono ?_
          rintro e w3 ⟨rfl, hbl⟩
          replace R1 := Lib.hid (R1.out.below hbl)
          replace R2 := Lib.hid (R2.out.below hbl)
          replace R3 := Lib.hid (R3.out.below hbl)
          replace R4 := Lib.hid (R4.out.below hbl)
          replace Rp := Lib.hid (Rp.out.below hbl)
          replace HNp := Lib.hid (HNp.out.below hbl)
          replace Rr := Lib.hid (Rr.out.below hbl)
          replace HNr := Lib.hid (HNr.out.below hbl)
          replace CX := Lib.hid (CX.out.below hbl CX.out.lt)
          replace CY := Lib.hid (CY.out.below hbl CY.out.lt)
          replace VP := Lib.hid (VP.out.below hbl VP.out.lt)
          replace HW := Lib.hid (bel_trans HW.out hbl); clear hbl
          clear CX0 CX1 CX2 CY0 CY1 CY2 VP0 VP1 VP2
          have CX0 : w3.cell? ⟨w.heap.size, 0, none⟩ = some (.bool s) := CX.out.cell 0
          have CX1 : w3.cell? ⟨w.heap.size, 1, none⟩ = some (.slice A (limbs n).length c) := CX.out.cell 1
          have CX2 : w3.cell? ⟨w.heap.size, 2, none⟩ = some (.slice B (limbs d0).length d) := CX.out.cell 2
          have CY0 : w3.cell? ⟨w.heap.size + 1, 0, none⟩ = some (.bool s') := CY.out.cell 0
          have CY1 : w3.cell? ⟨w.heap.size + 1, 1, none⟩ = some (.slice A' (limbs m).length c') := CY.out.cell 1
          have CY2 : w3.cell? ⟨w.heap.size + 1, 2, none⟩ = some (.slice B' (limbs f0).length d') := CY.out.cell 2
          go_wp2_with fail
          refine (qcmp_is (v := -v) A' B' A B c' d' c d ⟨s', m, f0⟩ ⟨s, n, d0⟩ _ R3.out R4.out R1.out R2.out KC.out.2.2.1 KC.out.2.2.2 KC.out.1 KC.out.2.1 HP.out.1 HP.out.2.1 HQ.out.1 HQ.out.2.1 HP.out.2.2 HQ.out.2.2 ⟨HV.out.2.2, HV.out.2.1⟩ (cmp_turned (a := ⟨s, n, d0⟩) HQ.out.2.2 HP.out.2.2 HV.out.1)).mono ?_
          rintro e w4 ⟨rfl, hbl⟩
          replace R1 := Lib.hid (R1.out.below hbl)
          replace R2 := Lib.hid (R2.out.below hbl)
          replace R3 := Lib.hid (R3.out.below hbl)
          replace R4 := Lib.hid (R4.out.below hbl)
          replace Rp := Lib.hid (Rp.out.below hbl)
          replace HNp := Lib.hid (HNp.out.below hbl)
          replace Rr := Lib.hid (Rr.out.below hbl)
          replace HNr := Lib.hid (HNr.out.below hbl)
          replace CX := Lib.hid (CX.out.below hbl CX.out.lt)
          replace CY := Lib.hid (CY.out.below hbl CY.out.lt)
          replace VP := Lib.hid (VP.out.below hbl VP.out.lt)
          replace HW := Lib.hid (bel_trans HW.out hbl); clear hbl
          clear CX0 CX1 CX2 CY0 CY1 CY2
          have CX0 : w4.cell? ⟨w.heap.size, 0, none⟩ = some (.bool s) := CX.out.cell 0
          have CX1 : w4.cell? ⟨w.heap.size, 1, none⟩ = some (.slice A (limbs n).length c) := CX.out.cell 1
          have CX2 : w4.cell? ⟨w.heap.size, 2, none⟩ = some (.slice B (limbs d0).length d) := CX.out.cell 2
          have CY0 : w4.cell? ⟨w.heap.size + 1, 0, none⟩ = some (.bool s') := CY.out.cell 0
          have CY1 : w4.cell? ⟨w.heap.size + 1, 1, none⟩ = some (.slice A' (limbs m).length c') := CY.out.cell 1
          have CY2 : w4.cell? ⟨w.heap.size + 1, 2, none⟩ = some (.slice B' (limbs f0).length d') := CY.out.cell 2
          go_wp2_with fail
          refine (aliveQ _).mono ?_
          rintro e w5 ⟨rfl, hbl⟩
          replace R1 := Lib.hid (R1.out.below hbl)
          replace R2 := Lib.hid (R2.out.below hbl)
          replace R3 := Lib.hid (R3.out.below hbl)
          replace R4 := Lib.hid (R4.out.below hbl)
          replace Rp := Lib.hid (Rp.out.below hbl)
          replace HNp := Lib.hid (HNp.out.below hbl)
          replace Rr := Lib.hid (Rr.out.below hbl)
          replace HNr := Lib.hid (HNr.out.below hbl)
          replace CX := Lib.hid (CX.out.below hbl CX.out.lt)
          replace CY := Lib.hid (CY.out.below hbl CY.out.lt)
          replace VP := Lib.hid (VP.out.below hbl VP.out.lt)
          replace HW := Lib.hid (bel_trans HW.out hbl); clear hbl
          clear CX0 CX1 CX2 CY0 CY1 CY2
          have CX0 : w5.cell? ⟨w.heap.size, 0, none⟩ = some (.bool s) := CX.out.cell 0
          have CX1 : w5.cell? ⟨w.heap.size, 1, none⟩ = some (.slice A (limbs n).length c) := CX.out.cell 1
          have CX2 : w5.cell? ⟨w.heap.size, 2, none⟩ = some (.slice B (limbs d0).length d) := CX.out.cell 2
          have CY0 : w5.cell? ⟨w.heap.size + 1, 0, none⟩ = some (.bool s') := CY.out.cell 0
          have CY1 : w5.cell? ⟨w.heap.size + 1, 1, none⟩ = some (.slice A' (limbs m).length c') := CY.out.cell 1
          have CY2 : w5.cell? ⟨w.heap.size + 1, 2, none⟩ = some (.slice B' (limbs f0).length d') := CY.out.cell 2
          go_wp2_with fail
          refine (refSame_ok (b := (v == 0)) s s' A B A' B' c d c' d' (limbs n) (limbs d0) (limbs m) (limbs f0) _ R1.out R3.out L18.out.1 R2.out R4.out L18.out.2.1 (like_cmp (a := ⟨s, n, d0⟩) (b := ⟨s', m, f0⟩) HQ.out.2.2 HP.out.2.2 HV.out.1)).mono ?_
          rintro e w6 ⟨rfl, hbl⟩
          replace R1 := Lib.hid (R1.out.below hbl)
          replace R2 := Lib.hid (R2.out.below hbl)
          replace R3 := Lib.hid (R3.out.below hbl)
          replace R4 := Lib.hid (R4.out.below hbl)
          replace Rp := Lib.hid (Rp.out.below hbl)
          replace HNp := Lib.hid (HNp.out.below hbl)
          replace Rr := Lib.hid (Rr.out.below hbl)
          replace HNr := Lib.hid (HNr.out.below hbl)
          replace CX := Lib.hid (CX.out.below hbl CX.out.lt)
          replace CY := Lib.hid (CY.out.below hbl CY.out.lt)
          replace VP := Lib.hid (VP.out.below hbl VP.out.lt)
          replace HW := Lib.hid (bel_trans HW.out hbl); clear hbl
          clear CX0 CX1 CX2 CY0 CY1 CY2
          have CX0 : w6.cell? ⟨w.heap.size, 0, none⟩ = some (.bool s) := CX.out.cell 0
          have CX1 : w6.cell? ⟨w.heap.size, 1, none⟩ = some (.slice A (limbs n).length c) := CX.out.cell 1
          have CX2 : w6.cell? ⟨w.heap.size, 2, none⟩ = some (.slice B (limbs d0).length d) := CX.out.cell 2
          have CY0 : w6.cell? ⟨w.heap.size + 1, 0, none⟩ = some (.bool s') := CY.out.cell 0
          have CY1 : w6.cell? ⟨w.heap.size + 1, 1, none⟩ = some (.slice A' (limbs m).length c') := CY.out.cell 1
          have CY2 : w6.cell? ⟨w.heap.size + 1, 2, none⟩ = some (.slice B' (limbs f0).length d') := CY.out.cell 2
          go_wp2
          go_ret
          exact ⟨rfl, HW.out⟩
        · have HV := Lib.hid hfit; clear hfit
          go_wp2_with fail
          refine (qcmp_over A B A' B' c d c' d' ⟨s, n, d0⟩ ⟨s', m, f0⟩ _ R1.out R2.out R3.out R4.out KC.out.1 KC.out.2.1 KC.out.2.2.1 KC.out.2.2.2 HQ.out.1 HQ.out.2.1 HP.out.1 HP.out.2.1 HQ.out.2.2 HP.out.2.2 HV.out).mono ?_
          rintro e w3 ⟨rfl, hbl⟩
          replace R1 := Lib.hid (R1.out.below hbl)
          replace R2 := Lib.hid (R2.out.below hbl)
          replace R3 := Lib.hid (R3.out.below hbl)
          replace R4 := Lib.hid (R4.out.below hbl)
          replace Rp := Lib.hid (Rp.out.below hbl)
          replace HNp := Lib.hid (HNp.out.below hbl)
          replace Rr := Lib.hid (Rr.out.below hbl)
          replace HNr := Lib.hid (HNr.out.below hbl)
          replace CX := Lib.hid (CX.out.below hbl CX.out.lt)
          replace CY := Lib.hid (CY.out.below hbl CY.out.lt)
          replace VP := Lib.hid (VP.out.below hbl VP.out.lt)
          replace HW := Lib.hid (bel_trans HW.out hbl); clear hbl
          clear CX0 CX1 CX2 CY0 CY1 CY2 VP0 VP1 VP2
          have CX0 : w3.cell? ⟨w.heap.size, 0, none⟩ = some (.bool s) := CX.out.cell 0
          have CX1 : w3.cell? ⟨w.heap.size, 1, none⟩ = some (.slice A (limbs n).length c) := CX.out.cell 1
          have CX2 : w3.cell? ⟨w.heap.size, 2, none⟩ = some (.slice B (limbs d0).length d) := CX.out.cell 2
          have CY0 : w3.cell? ⟨w.heap.size + 1, 0, none⟩ = some (.bool s') := CY.out.cell 0
          have CY1 : w3.cell? ⟨w.heap.size + 1, 1, none⟩ = some (.slice A' (limbs m).length c') := CY.out.cell 1
          have CY2 : w3.cell? ⟨w.heap.size + 1, 2, none⟩ = some (.slice B' (limbs f0).length d') := CY.out.cell 2
          go_wp2_with fail
          refine (qcmp_over A' B' A B c' d' c d ⟨s', m, f0⟩ ⟨s, n, d0⟩ _ R3.out R4.out R1.out R2.out KC.out.2.2.1 KC.out.2.2.2 KC.out.1 KC.out.2.1 HP.out.1 HP.out.2.1 HQ.out.1 HQ.out.2.1 HP.out.2.2 HQ.out.2.2 (fun h => HV.out ⟨h.2, h.1⟩)).mono ?_
          rintro e w4 ⟨rfl, hbl⟩
          replace R1 := Lib.hid (R1.out.below hbl)
          replace R2 := Lib.hid (R2.out.below hbl)
          replace R3 := Lib.hid (R3.out.below hbl)
          replace R4 := Lib.hid (R4.out.below hbl)
          replace Rp := Lib.hid (Rp.out.below hbl)
          replace HNp := Lib.hid (HNp.out.below hbl)
          replace Rr := Lib.hid (Rr.out.below hbl)
          replace HNr := Lib.hid (HNr.out.below hbl)
          replace CX := Lib.hid (CX.out.below hbl CX.out.lt)
          replace CY := Lib.hid (CY.out.below hbl CY.out.lt)
          replace VP := Lib.hid (VP.out.below hbl VP.out.lt)
          replace HW := Lib.hid (bel_trans HW.out hbl); clear hbl
          clear CX0 CX1 CX2 CY0 CY1 CY2
          have CX0 : w4.cell? ⟨w.heap.size, 0, none⟩ = some (.bool s) := CX.out.cell 0
          have CX1 : w4.cell? ⟨w.heap.size, 1, none⟩ = some (.slice A (limbs n).length c) := CX.out.cell 1
          have CX2 : w4.cell? ⟨w.heap.size, 2, none⟩ = some (.slice B (limbs d0).length d) := CX.out.cell 2
          have CY0 : w4.cell? ⟨w.heap.size + 1, 0, none⟩ = some (.bool s') := CY.out.cell 0
          have CY1 : w4.cell? ⟨w.heap.size + 1, 1, none⟩ = some (.slice A' (limbs m).length c') := CY.out.cell 1
          have CY2 : w4.cell? ⟨w.heap.size + 1, 2, none⟩ = some (.slice B' (limbs f0).length d') := CY.out.cell 2
          go_wp2_with fail
          refine (aliveQ _).mono ?_
          rintro e w5 ⟨rfl, hbl⟩
          replace R1 := Lib.hid (R1.out.below hbl)
          replace R2 := Lib.hid (R2.out.below hbl)
          replace R3 := Lib.hid (R3.out.below hbl)
          replace R4 := Lib.hid (R4.out.below hbl)
          replace Rp := Lib.hid (Rp.out.below hbl)
          replace HNp := Lib.hid (HNp.out.below hbl)
          replace Rr := Lib.hid (Rr.out.below hbl)
          replace HNr := Lib.hid (HNr.out.below hbl)
          replace CX := Lib.hid (CX.out.below hbl CX.out.lt)
          replace CY := Lib.hid (CY.out.below hbl CY.out.lt)
          replace VP := Lib.hid (VP.out.below hbl VP.out.lt)
          replace HW := Lib.hid (bel_trans HW.out hbl); clear hbl
          clear CX0 CX1 CX2 CY0 CY1 CY2
          have CX0 : w5.cell? ⟨w.heap.size, 0, none⟩ = some (.bool s) := CX.out.cell 0
          have CX1 : w5.cell? ⟨w.heap.size, 1, none⟩ = some (.slice A (limbs n).length c) := CX.out.cell 1
          have CX2 : w5.cell? ⟨w.heap.size, 2, none⟩ = some (.slice B (limbs d0).length d) := CX.out.cell 2
          have CY0 : w5.cell? ⟨w.heap.size + 1, 0, none⟩ = some (.bool s') := CY.out.cell 0
          have CY1 : w5.cell? ⟨w.heap.size + 1, 1, none⟩ = some (.slice A' (limbs m).length c') := CY.out.cell 1
          have CY2 : w5.cell? ⟨w.heap.size + 1, 2, none⟩ = some (.slice B' (limbs f0).length d') := CY.out.cell 2
          go_wp2
          go_ret
          exact ⟨rfl, HW.out⟩
      · obtain ⟨rfl, hqf, t5, t6, r5⟩ := A3.out.good hk
        have HF3 := Lib.hid hqf.symm; clear hqf hk
        have HS := Lib.hid (And.intro t5 (And.intro t6 r5)); clear t5 t6 r5
        by_cases hm0 : m = 0
        · have hz : ¬ (0 : Int) < ((limbs m).length : Int) := by rw [limbs_len0.2 hm0]; omega
          clear hm0
          go_upto_region 13 with fail
          clear hz
          by_cases hfit : n * f0 < Top ∧ m * d0 < Top
          · obtain ⟨v, hv⟩ : ∃ v, cmpS s s' (n * f0) (m * d0) = v := ⟨_, rfl⟩
            have g0 : IntKind.i64.wrap v = v := by rw [← hv]; have := wrap_cmpS s' s (m * d0) (n * f0); rw [cmp_turned (a := ⟨s, n, d0⟩) HQ.out.2.2 HP.out.2.2 hv] at this; simpa [hv] using this
            have HV := Lib.hid (And.intro hv hfit); clear hv hfit
            go_wp2_with fail
            refine (qcmp_is (v := v) A B A' B' c d c' d' ⟨s, n, d0⟩ ⟨s', m, f0⟩ _ R1.out R2.out R3.out R4.out KC.out.1 KC.out.2.1 KC.out.2.2.1 KC.out.2.2.2 HQ.out.1 HQ.out.2.1 HP.out.1 HP.out.2.1 HQ.out.2.2 HP.out.2.2 HV.out.2 HV.out.1).mono ?_
            rintro e w3 ⟨rfl, hbl⟩
            replace R1 := Lib.hid (R1.out.below hbl)
            replace R2 := Lib.hid (R2.out.below hbl)
            replace R3 := Lib.hid (R3.out.below hbl)
            replace R4 := Lib.hid (R4.out.below hbl)
            replace Rp := Lib.hid (Rp.out.below hbl)
            replace HNp := Lib.hid (HNp.out.below hbl)
            replace Rr := Lib.hid (Rr.out.below hbl)
            replace HNr := Lib.hid (HNr.out.below hbl)
            replace CX := Lib.hid (CX.out.below hbl CX.out.lt)
            replace CY := Lib.hid (CY.out.below hbl CY.out.lt)
            replace VP := Lib.hid (VP.out.below hbl VP.out.lt)
            replace HW := Lib.hid (bel_trans HW.out hbl); clear hbl
            clear CX0 CX1 CX2 CY0 CY1 CY2 VP0 VP1 VP2
            have CX0 : w3.cell? ⟨w.heap.size, 0, none⟩ = some (.bool s) := CX.out.cell 0
            have CX1 : w3.cell? ⟨w.heap.size, 1, none⟩ = some (.slice A (limbs n).length c) := CX.out.cell 1
            have CX2 : w3.cell? ⟨w.heap.size, 2, none⟩ = some (.slice B (limbs d0).length d) := CX.out.cell 2
            have CY0 : w3.cell? ⟨w.heap.size + 1, 0, none⟩ = some (.bool s') := CY.out.cell 0
            have CY1 : w3.cell? ⟨w.heap.size + 1, 1, none⟩ = some (.slice A' (limbs m).length c') := CY.out.cell 1
            have CY2 : w3.cell? ⟨w.heap.size + 1, 2, none⟩ = some (.slice B' (limbs f0).length d') := CY.out.cell 2
            have VP0 : w3.cell? ⟨w2.heap.size, 0, none⟩ = some (.bool q3.s) := VP.out.cell 0
            have VP1 : w3.cell? ⟨w2.heap.size, 1, none⟩ = some (.slice Ap (limbs q3.n).length cp) := VP.out.cell 1
            have VP2 : w3.cell? ⟨w2.heap.size, 2, none⟩ = some (.slice Ar (limbs q3.d).length cr) := VP.out.cell 2
            go_wp2_with fail
            refine (qcmp_is (v := -v) A' B' A B c' d' c d ⟨s', m, f0⟩ ⟨s, n, d0⟩ _ R3.out R4.out R1.out R2.out KC.out.2.2.1 KC.out.2.2.2 KC.out.1 KC.out.2.1 HP.out.1 HP.out.2.1 HQ.out.1 HQ.out.2.1 HP.out.2.2 HQ.out.2.2 ⟨HV.out.2.2, HV.out.2.1⟩ (cmp_turned (a := ⟨s, n, d0⟩) HQ.out.2.2 HP.out.2.2 HV.out.1)).mono ?_
            rintro e w4 ⟨rfl, hbl⟩
            replace R1 := Lib.hid (R1.out.below hbl)
            replace R2 := Lib.hid (R2.out.below hbl)
            replace R3 := Lib.hid (R3.out.below hbl)
            replace R4 := Lib.hid (R4.out.below hbl)
            replace Rp := Lib.hid (Rp.out.below hbl)
            replace HNp := Lib.hid (HNp.out.below hbl)
            replace Rr := Lib.hid (Rr.out.below hbl)
            replace HNr := Lib.hid (HNr.out.below hbl)
            replace CX := Lib.hid (CX.out.below hbl CX.out.lt)
            replace CY := Lib.hid (CY.out.below hbl CY.out.lt)
            replace VP := Lib.hid (VP.out.below hbl VP.out.lt)
            replace HW := Lib.hid (bel_trans HW.out hbl); clear hbl
            clear CX0 CX1 CX2 CY0 CY1 CY2 VP0 VP1 VP2
            have CX0 : w4.cell? ⟨w.heap.size, 0, none⟩ = some (.bool s) := CX.out.cell 0
            have CX1 : w4.cell? ⟨w.heap.size, 1, none⟩ = some (.slice A (limbs n).length c) := CX.out.cell 1
            have CX2 : w4.cell? ⟨w.heap.size, 2, none⟩ = some (.slice B (limbs d0).length d) := CX.out.cell 2
            have CY0 : w4.cell? ⟨w.heap.size + 1, 0, none⟩ = some (.bool s') := CY.out.cell 0
            have CY1 : w4.cell? ⟨w.heap.size + 1, 1, none⟩ = some (.slice A' (limbs m).length c') := CY.out.cell 1
            have CY2 : w4.cell? ⟨w.heap.size + 1, 2, none⟩ = some (.slice B' (limbs f0).length d') := CY.out.cell 2
            have VP0 : w4.cell? ⟨w2.heap.size, 0, none⟩ = some (.bool q3.s) := VP.out.cell 0
            have VP1 : w4.cell? ⟨w2.heap.size, 1, none⟩ = some (.slice Ap (limbs q3.n).length cp) := VP.out.cell 1
            have VP2 : w4.cell? ⟨w2.heap.size, 2, none⟩ = some (.slice Ar (limbs q3.d).length cr) := VP.out.cell 2
            go_wp2_with fail
            refine (aliveQ _).mono ?_
            rintro e w5 ⟨rfl, hbl⟩
            replace R1 := Lib.hid (R1.out.below hbl)
            replace R2 := Lib.hid (R2.out.below hbl)
            replace R3 := Lib.hid (R3.out.below hbl)
            replace R4 := Lib.hid (R4.out.below hbl)
            replace Rp := Lib.hid (Rp.out.below hbl)
            replace HNp := Lib.hid (HNp.out.below hbl)
            replace Rr := Lib.hid (Rr.out.below hbl)
            replace HNr := Lib.hid (HNr.out.below hbl)
            replace CX := Lib.hid (CX.out.below hbl CX.out.lt)
            replace CY := Lib.hid (CY.out.below hbl CY.out.lt)
            replace VP := Lib.hid (VP.out.below hbl VP.out.lt)
            replace HW := Lib.hid (bel_trans HW.out hbl); clear hbl
            clear CX0 CX1 CX2 CY0 CY1 CY2 VP0 VP1 VP2
            have CX0 : w5.cell? ⟨w.heap.size, 0, none⟩ = some (.bool s) := CX.out.cell 0
            have CX1 : w5.cell? ⟨w.heap.size, 1, none⟩ = some (.slice A (limbs n).length c) := CX.out.cell 1
            have CX2 : w5.cell? ⟨w.heap.size, 2, none⟩ = some (.slice B (limbs d0).length d) := CX.out.cell 2
            have CY0 : w5.cell? ⟨w.heap.size + 1, 0, none⟩ = some (.bool s') := CY.out.cell 0
            have CY1 : w5.cell? ⟨w.heap.size + 1, 1, none⟩ = some (.slice A' (limbs m).length c') := CY.out.cell 1
            have CY2 : w5.cell? ⟨w.heap.size + 1, 2, none⟩ = some (.slice B' (limbs f0).length d') := CY.out.cell 2
            have VP0 : w5.cell? ⟨w2.heap.size, 0, none⟩ = some (.bool q3.s) := VP.out.cell 0
            have VP1 : w5.cell? ⟨w2.heap.size, 1, none⟩ = some (.slice Ap (limbs q3.n).length cp) := VP.out.cell 1
            have VP2 : w5.cell? ⟨w2.heap.size, 2, none⟩ = some (.slice Ar (limbs q3.d).length cr) := VP.out.cell 2
            go_wp2_with fail
            refine (refSame_ok (b := (v == 0)) s s' A B A' B' c d c' d' (limbs n) (limbs d0) (limbs m) (limbs f0) _ R1.out R3.out L18.out.1 R2.out R4.out L18.out.2.1 (like_cmp (a := ⟨s, n, d0⟩) (b := ⟨s', m, f0⟩) HQ.out.2.2 HP.out.2.2 HV.out.1)).mono ?_
            rintro e w6 ⟨rfl, hbl⟩
            replace R1 := Lib.hid (R1.out.below hbl)
            replace R2 := Lib.hid (R2.out.below hbl)
            replace R3 := Lib.hid (R3.out.below hbl)
            replace R4 := Lib.hid (R4.out.below hbl)
            replace Rp := Lib.hid (Rp.out.below hbl)
            replace HNp := Lib.hid (HNp.out.below hbl)
            replace Rr := Lib.hid (Rr.out.below hbl)
            replace HNr := Lib.hid (HNr.out.below hbl)
            replace CX := Lib.hid (CX.out.below hbl CX.out.lt)
            replace CY := Lib.hid (CY.out.below hbl CY.out.lt)
            replace VP := Lib.hid (VP.out.below hbl VP.out.lt)
            replace HW := Lib.hid (bel_trans HW.out hbl); clear hbl
            clear CX0 CX1 CX2 CY0 CY1 CY2 VP0 VP1 VP2
            have CX0 : w6.cell? ⟨w.heap.size, 0, none⟩ = some (.bool s) := CX.out.cell 0
            have CX1 : w6.cell? ⟨w.heap.size, 1, none⟩ = some (.slice A (limbs n).length c) := CX.out.cell 1
            have CX2 : w6.cell? ⟨w.heap.size, 2, none⟩ = some (.slice B (limbs d0).length d) := CX.out.cell 2
            have CY0 : w6.cell? ⟨w.heap.size + 1, 0, none⟩ = some (.bool s') := CY.out.cell 0
            have CY1 : w6.cell? ⟨w.heap.size + 1, 1, none⟩ = some (.slice A' (limbs m).length c') := CY.out.cell 1
            have CY2 : w6.cell? ⟨w.heap.size + 1, 2, none⟩ = some (.slice B' (limbs f0).length d') := CY.out.cell 2
            have VP0 : w6.cell? ⟨w2.heap.size, 0, none⟩ = some (.bool q3.s) := VP.out.cell 0
            have VP1 : w6.cell? ⟨w2.heap.size, 1, none⟩ = some (.slice Ap (limbs q3.n).length cp) := VP.out.cell 1
            have VP2 : w6.cell? ⟨w2.heap.size, 2, none⟩ = some (.slice Ar (limbs q3.d).length cr) := VP.out.cell 2
            go_wp2
            go_ret
            exact ⟨rfl, HW.out⟩
          · have HV := Lib.hid hfit; clear hfit
            go_wp2_with fail
            refine (qcmp_over A B A' B' c d c' d' ⟨s, n, d0⟩ ⟨s', m, f0⟩ _ R1.out R2.out R3.out R4.out KC.out.1 KC.out.2.1 KC.out.2.2.1 KC.out.2.2.2 HQ.out.1 HQ.out.2.1 HP.out.1 HP.out.2.1 HQ.out.2.2 HP.out.2.2 HV.out).mono ?_
            rintro e w3 ⟨rfl, hbl⟩
            replace R1 := Lib.hid (R1.out.below hbl)
            replace R2 := Lib.hid (R2.out.below hbl)
            replace R3 := Lib.hid (R3.out.below hbl)
            replace R4 := Lib.hid (R4.out.below hbl)
            replace Rp := Lib.hid (Rp.out.below hbl)
            replace HNp := Lib.hid (HNp.out.below hbl)
            replace Rr := Lib.hid (Rr.out.below hbl)
            replace HNr := Lib.hid (HNr.out.below hbl)
            replace CX := Lib.hid (CX.out.below hbl CX.out.lt)
            replace CY := Lib.hid (CY.out.below hbl CY.out.lt)
            replace VP := Lib.hid (VP.out.below hbl VP.out.lt)
            replace HW := Lib.hid (bel_trans HW.out hbl); clear hbl
            clear CX0 CX1 CX2 CY0 CY1 CY2 VP0 VP1 VP2
            have CX0 : w3.cell? ⟨w.heap.size, 0, none⟩ = some (.bool s) := CX.out.cell 0
            have CX1 : w3.cell? ⟨w.heap.size, 1, none⟩ = some (.slice A (limbs n).length c) := CX.out.cell 1
            have CX2 : w3.cell? ⟨w.heap.size, 2, none⟩ = some (.slice B (limbs d0).length d) := CX.out.cell 2
            have CY0 : w3.cell? ⟨w.heap.size + 1, 0, none⟩ = some (.bool s') := CY.out.cell 0
            have CY1 : w3.cell? ⟨w.heap.size + 1, 1, none⟩ = some (.slice A' (limbs m).length c') := CY.out.cell 1
            have CY2 : w3.cell? ⟨w.heap.size + 1, 2, none⟩ = some (.slice B' (limbs f0).length d') := CY.out.cell 2
            have VP0 : w3.cell? ⟨w2.heap.size, 0, none⟩ = some (.bool q3.s) := VP.out.cell 0
            have VP1 : w3.cell? ⟨w2.heap.size, 1, none⟩ = some (.slice Ap (limbs q3.n).length cp) := VP.out.cell 1
            have VP2 : w3.cell? ⟨w2.heap.size, 2, none⟩ = some (.slice Ar (limbs q3.d).length cr) := VP.out.cell 2
            go_wp2_with fail
            refine (qcmp_over A' B' A B c' d' c d ⟨s', m, f0⟩ ⟨s, n, d0⟩ _ R3.out R4.out R1.out R2.out KC.out.2.2.1 KC.out.2.2.2 KC.out.1 KC.out.2.1 HP.out.1 HP.out.2.1 HQ.out.1 HQ.out.2.1 HP.out.2.2 HQ.out.2.2 (fun h => HV.out ⟨h.2, h.1⟩)).mono ?_
            rintro e w4 ⟨rfl, hbl⟩
            replace R1 := Lib.hid (R1.out.below hbl)
            replace R2 := Lib.hid (R2.out.below hbl)
            replace R3 := Lib.hid (R3.out.below hbl)
            replace R4 := Lib.hid (R4.out.below hbl)
            replace Rp := Lib.hid (Rp.out.below hbl)
            replace HNp := Lib.hid (HNp.out.below hbl)
            replace Rr := Lib.hid (Rr.out.below hbl)
            replace HNr := Lib.hid (HNr.out.below hbl)
            replace CX := Lib.hid (CX.out.below hbl CX.out.lt)
            replace CY := Lib.hid (CY.out.below hbl CY.out.lt)
            replace VP := Lib.hid (VP.out.below hbl VP.out.lt)
            replace HW := Lib.hid (bel_trans HW.out hbl); clear hbl
            clear CX0 CX1 CX2 CY0 CY1 CY2 VP0 VP1 VP2
            have CX0 : w4.cell? ⟨w.heap.size, 0, none⟩ = some (.bool s) := CX.out.cell 0
            have CX1 : w4.cell? ⟨w.heap.size, 1, none⟩ = some (.slice A (limbs n).length c) := CX.out.cell 1
            have CX2 : w4.cell? ⟨w.heap.size, 2, none⟩ = some (.slice B (limbs d0).length d) := CX.out.cell 2
            have CY0 : w4.cell? ⟨w.heap.size + 1, 0, none⟩ = some (.bool s') := CY.out.cell 0
            have CY1 : w4.cell? ⟨w.heap.size + 1, 1, none⟩ = some (.slice A' (limbs m).length c') := CY.out.cell 1
            have CY2 : w4.cell? ⟨w.heap.size + 1, 2, none⟩ = some (.slice B' (limbs f0).length d') := CY.out.cell 2
            have VP0 : w4.cell? ⟨w2.heap.size, 0, none⟩ = some (.bool q3.s) := VP.out.cell 0
            have VP1 : w4.cell? ⟨w2.heap.size, 1, none⟩ = some (.slice Ap (limbs q3.n).length cp) := VP.out.cell 1
            have VP2 : w4.cell? ⟨w2.heap.size, 2, none⟩ = some (.slice Ar (limbs q3.d).length cr) := VP.out.cell 2
            go_wp2_with fail
            refine (aliveQ _).mono ?_
            rintro e w5 ⟨rfl, hbl⟩
            replace R1 := Lib.hid (R1.out.below hbl)
            replace R2 := Lib.hid (R2.out.below hbl)
            replace R3 := Lib.hid (R3.out.below hbl)
            replace R4 := Lib.hid (R4.out.below hbl)
            replace Rp := Lib.hid (Rp.out.below hbl)
            replace HNp := Lib.hid (HNp.out.below hbl)
            replace Rr := Lib.hid (Rr.out.below hbl)
            replace HNr := Lib.hid (HNr.out.below hbl)
            replace CX := Lib.hid (CX.out.below hbl CX.out.lt)
            replace CY := Lib.hid (CY.out.below hbl CY.out.lt)
            replace VP := Lib.hid (VP.out.below hbl VP.out.lt)
            replace HW := Lib.hid (bel_trans HW.out hbl); clear hbl
            clear CX0 CX1 CX2 CY0 CY1 CY2 VP0 VP1 VP2
            have CX0 : w5.cell? ⟨w.heap.size, 0, none⟩ = some (.bool s) := CX.out.cell 0
            have CX1 : w5.cell? ⟨w.heap.size, 1, none⟩ = some (.slice A (limbs n).length c) := CX.out.cell 1
            have CX2 : w5.cell? ⟨w.heap.size, 2, none⟩ = some (.slice B (limbs d0).length d) := CX.out.cell 2
            have CY0 : w5.cell? ⟨w.heap.size + 1, 0, none⟩ = some (.bool s') := CY.out.cell 0
            have CY1 : w5.cell? ⟨w.heap.size + 1, 1, none⟩ = some (.slice A' (limbs m).length c') := CY.out.cell 1
            have CY2 : w5.cell? ⟨w.heap.size + 1, 2, none⟩ = some (.slice B' (limbs f0).length d') := CY.out.cell 2
            have VP0 : w5.cell? ⟨w2.heap.size, 0, none⟩ = some (.bool q3.s) := VP.out.cell 0
            have VP1 : w5.cell? ⟨w2.heap.size, 1, none⟩ = some (.slice Ap (limbs q3.n).length cp) := VP.out.cell 1
            have VP2 : w5.cell? ⟨w2.heap.size, 2, none⟩ = some (.slice Ar (limbs q3.d).length cr) := VP.out.cell 2
            go_wp2
            go_ret
            exact ⟨rfl, HW.out⟩
        · have hz : (0 : Int) < ((limbs m).length : Int) := by have := mt limbs_len0.1 hm0; omega
          have HM0 := Lib.hid hm0; clear hm0
          obtain ⟨q4, c4, a4, v4, v4'⟩ := ans_red (q3.s != s') (q3.n * f0) (q3.d * m) (den_ne HS.out.2.2.den HM0.out)
          have V4 := Lib.hid (And.intro v4 v4'); clear v4 v4'
          rw [quo_back (a := ⟨s, n, d0⟩) (b := ⟨s', m, f0⟩) HQ.out.2.2 HP.out.2.2 HM0.out HF3.out] at a4
          obtain ⟨ov4, hk4⟩ : ∃ k, overB false (q3.n * f0) (q3.d * m) = k := ⟨_, rfl⟩
          have A4 := Lib.hid (show Ans q4 ⟨s, n, d0⟩ c4 ov4 by rw [← hk4]; exact a4); clear a4 hk4
          go_wp2_with fail
          refine (quo_walk Ap Ar A' B' cp cr c' d' q3 ⟨s', m, f0⟩ _ Rp.out Rr.out R3.out R4.out HCp.out HCr.out KC.out.2.2.1 KC.out.2.2.2 HS.out.1 HS.out.2.1 HP.out.1 HP.out.2.1 HS.out.2.2 HP.out.2.2 HM0.out V4.out.1 V4.out.2).mono ?_
          rintro e w3 ⟨vx, vy, rfl, hnx, hny, hbl⟩
          replace R1 := Lib.hid (R1.out.below hbl)
          replace R2 := Lib.hid (R2.out.below hbl)
          replace R3 := Lib.hid (R3.out.below hbl)
          replace R4 := Lib.hid (R4.out.below hbl)
          replace Rp := Lib.hid (Rp.out.below hbl)
          replace HNp := Lib.hid (HNp.out.below hbl)
          replace Rr := Lib.hid (Rr.out.below hbl)
          replace HNr := Lib.hid (HNr.out.below hbl)
          replace CX := Lib.hid (CX.out.below hbl CX.out.lt)
          replace CY := Lib.hid (CY.out.below hbl CY.out.lt)
          replace VP := Lib.hid (VP.out.below hbl VP.out.lt)
          replace HW := Lib.hid (bel_trans HW.out hbl); clear hbl
          clear CX0 CX1 CX2 CY0 CY1 CY2 VP0 VP1 VP2
          have CX0 : w3.cell? ⟨w.heap.size, 0, none⟩ = some (.bool s) := CX.out.cell 0
          have CX1 : w3.cell? ⟨w.heap.size, 1, none⟩ = some (.slice A (limbs n).length c) := CX.out.cell 1
          have CX2 : w3.cell? ⟨w.heap.size, 2, none⟩ = some (.slice B (limbs d0).length d) := CX.out.cell 2
          have CY0 : w3.cell? ⟨w.heap.size + 1, 0, none⟩ = some (.bool s') := CY.out.cell 0
          have CY1 : w3.cell? ⟨w.heap.size + 1, 1, none⟩ = some (.slice A' (limbs m).length c') := CY.out.cell 1
          have CY2 : w3.cell? ⟨w.heap.size + 1, 2, none⟩ = some (.slice B' (limbs f0).length d') := CY.out.cell 2
          have VP0 : w3.cell? ⟨w2.heap.size, 0, none⟩ = some (.bool q3.s) := VP.out.cell 0
          have VP1 : w3.cell? ⟨w2.heap.size, 1, none⟩ = some (.slice Ap (limbs q3.n).length cp) := VP.out.cell 1
          have VP2 : w3.cell? ⟨w2.heap.size, 2, none⟩ = some (.slice Ar (limbs q3.d).length cr) := VP.out.cell 2
          have HNx := Lib.hid hnx; clear hnx
          obtain ⟨Ax, cx, rfl, hcx, hrx⟩ := HNx.out.row
          have Rx := Lib.hid hrx; have HCx := Lib.hid hcx; clear hrx hcx
          have HNy := Lib.hid hny; clear hny
          obtain ⟨Ay, cy, rfl, hcy, hry⟩ := HNy.out.row
          have Ry := Lib.hid hry; have HCy := Lib.hid hcy; clear hry hcy
          go_upto_region 11 with fail
          clear hz
          obtain ⟨wx, hwx⟩ : ∃ wx, wx = w3.alloc (.cells #[.bool q4.s, .slice Ax (limbs q4.n).length cx, .slice Ay (limbs q4.d).length cy] 25) := ⟨_, rfl⟩
          rw [← hwx]
          have hbl : Below w3.heap.size w3 wx := by rw [hwx]; exact bel_alloc (bel_refl _) _
          have VX : Blk wx (w3.heap.size) 25 #[.bool q4.s, .slice Ax (limbs q4.n).length cx, .slice Ay (limbs q4.d).length cy] := by
            have hz := Blk.new (w3) 25 #[.bool q4.s, .slice Ax (limbs q4.n).length cx, .slice Ay (limbs q4.d).length cy]
            rw [hwx]
            exact hz
          clear hwx
          replace R1 := Lib.hid (R1.out.below hbl)
          replace R2 := Lib.hid (R2.out.below hbl)
          replace R3 := Lib.hid (R3.out.below hbl)
          replace R4 := Lib.hid (R4.out.below hbl)
          replace Rp := Lib.hid (Rp.out.below hbl)
          replace HNp := Lib.hid (HNp.out.below hbl)
          replace Rr := Lib.hid (Rr.out.below hbl)
          replace HNr := Lib.hid (HNr.out.below hbl)
          replace Rx := Lib.hid (Rx.out.below hbl)
          replace HNx := Lib.hid (HNx.out.below hbl)
          replace Ry := Lib.hid (Ry.out.below hbl)
          replace HNy := Lib.hid (HNy.out.below hbl)
          replace CX := Lib.hid (CX.out.below hbl CX.out.lt)
          replace CY := Lib.hid (CY.out.below hbl CY.out.lt)
          replace VP := Lib.hid (VP.out.below hbl VP.out.lt)
          replace HW := Lib.hid (bel_trans HW.out hbl); clear hbl
          replace VX := Lib.hid VX
          clear CX0 CX1 CX2 CY0 CY1 CY2 VP0 VP1 VP2
          have CX0 : wx.cell? ⟨w.heap.size, 0, none⟩ = some (.bool s) := CX.out.cell 0
          have CX1 : wx.cell? ⟨w.heap.size, 1, none⟩ = some (.slice A (limbs n).length c) := CX.out.cell 1
          have CX2 : wx.cell? ⟨w.heap.size, 2, none⟩ = some (.slice B (limbs d0).length d) := CX.out.cell 2
          have CY0 : wx.cell? ⟨w.heap.size + 1, 0, none⟩ = some (.bool s') := CY.out.cell 0
          have CY1 : wx.cell? ⟨w.heap.size + 1, 1, none⟩ = some (.slice A' (limbs m).length c') := CY.out.cell 1
          have CY2 : wx.cell? ⟨w.heap.size + 1, 2, none⟩ = some (.slice B' (limbs f0).length d') := CY.out.cell 2
          have VP0 : wx.cell? ⟨w2.heap.size, 0, none⟩ = some (.bool q3.s) := VP.out.cell 0
          have VP1 : wx.cell? ⟨w2.heap.size, 1, none⟩ = some (.slice Ap (limbs q3.n).length cp) := VP.out.cell 1
          have VP2 : wx.cell? ⟨w2.heap.size, 2, none⟩ = some (.slice Ar (limbs q3.d).length cr) := VP.out.cell 2
          have VX0 : wx.cell? ⟨w3.heap.size, 0, none⟩ = some (.bool q4.s) := VX.out.cell 0
          have VX1 : wx.cell? ⟨w3.heap.size, 1, none⟩ = some (.slice Ax (limbs q4.n).length cx) := VX.out.cell 1
          have VX2 : wx.cell? ⟨w3.heap.size, 2, none⟩ = some (.slice Ay (limbs q4.d).length cy) := VX.out.cell 2
          rcases (show ov4 = true ∨ ov4 = false by cases ov4 <;> simp) with hk | hk
          · obtain ⟨rfl, rfl⟩ := A4.out.over hk
            clear hk
            go_wp2_with fail
            refine (ratRight_q q3 Ap Ar cp cr _ Rp.out Rr.out HCp.out HCr.out HS.out.1 HS.out.2.1 HS.out.2.2).mono ?_
            rintro e w4 ⟨rfl, hbl⟩
            replace R1 := Lib.hid (R1.out.below hbl)
            replace R2 := Lib.hid (R2.out.below hbl)
            replace R3 := Lib.hid (R3.out.below hbl)
            replace R4 := Lib.hid (R4.out.below hbl)
            replace Rp := Lib.hid (Rp.out.below hbl)
            replace HNp := Lib.hid (HNp.out.below hbl)
            replace Rr := Lib.hid (Rr.out.below hbl)
            replace HNr := Lib.hid (HNr.out.below hbl)
            replace Rx := Lib.hid (Rx.out.below hbl)
            replace HNx := Lib.hid (HNx.out.below hbl)
            replace Ry := Lib.hid (Ry.out.below hbl)
            replace HNy := Lib.hid (HNy.out.below hbl)
            replace CX := Lib.hid (CX.out.below hbl CX.out.lt)
            replace CY := Lib.hid (CY.out.below hbl CY.out.lt)
            replace VP := Lib.hid (VP.out.below hbl VP.out.lt)
            replace VX := Lib.hid (VX.out.below hbl VX.out.lt)
            replace HW := Lib.hid (bel_trans HW.out hbl); clear hbl
            clear CX0 CX1 CX2 CY0 CY1 CY2 VP0 VP1 VP2 VX0 VX1 VX2
            have CX0 : w4.cell? ⟨w.heap.size, 0, none⟩ = some (.bool s) := CX.out.cell 0
            have CX1 : w4.cell? ⟨w.heap.size, 1, none⟩ = some (.slice A (limbs n).length c) := CX.out.cell 1
            have CX2 : w4.cell? ⟨w.heap.size, 2, none⟩ = some (.slice B (limbs d0).length d) := CX.out.cell 2
            have CY0 : w4.cell? ⟨w.heap.size + 1, 0, none⟩ = some (.bool s') := CY.out.cell 0
            have CY1 : w4.cell? ⟨w.heap.size + 1, 1, none⟩ = some (.slice A' (limbs m).length c') := CY.out.cell 1
            have CY2 : w4.cell? ⟨w.heap.size + 1, 2, none⟩ = some (.slice B' (limbs f0).length d') := CY.out.cell 2
            have VP0 : w4.cell? ⟨w2.heap.size, 0, none⟩ = some (.bool q3.s) := VP.out.cell 0
            have VP1 : w4.cell? ⟨w2.heap.size, 1, none⟩ = some (.slice Ap (limbs q3.n).length cp) := VP.out.cell 1
            have VP2 : w4.cell? ⟨w2.heap.size, 2, none⟩ = some (.slice Ar (limbs q3.d).length cr) := VP.out.cell 2
            go_upto_region 13 with fail
            by_cases hfit : n * f0 < Top ∧ m * d0 < Top
            · obtain ⟨v, hv⟩ : ∃ v, cmpS s s' (n * f0) (m * d0) = v := ⟨_, rfl⟩
              have g0 : IntKind.i64.wrap v = v := by rw [← hv]; have := wrap_cmpS s' s (m * d0) (n * f0); rw [cmp_turned (a := ⟨s, n, d0⟩) HQ.out.2.2 HP.out.2.2 hv] at this; simpa [hv] using this
              have HV := Lib.hid (And.intro hv hfit); clear hv hfit
              go_wp2_with fail
              refine (qcmp_is (v := v) A B A' B' c d c' d' ⟨s, n, d0⟩ ⟨s', m, f0⟩ _ R1.out R2.out R3.out R4.out KC.out.1 KC.out.2.1 KC.out.2.2.1 KC.out.2.2.2 HQ.out.1 HQ.out.2.1 HP.out.1 HP.out.2.1 HQ.out.2.2 HP.out.2.2 HV.out.2 HV.out.1).mono ?_
              rintro e w5 ⟨rfl, hbl⟩
              replace R1 := Lib.hid (R1.out.below hbl)
              replace R2 := Lib.hid (R2.out.below hbl)
              replace R3 := Lib.hid (R3.out.below hbl)
              replace R4 := Lib.hid (R4.out.below hbl)
              replace Rp := Lib.hid (Rp.out.below hbl)
              replace HNp := Lib.hid (HNp.out.below hbl)
              replace Rr := Lib.hid (Rr.out.below hbl)
              replace HNr := Lib.hid (HNr.out.below hbl)
              replace Rx := Lib.hid (Rx.out.below hbl)
              replace HNx := Lib.hid (HNx.out.below hbl)
              replace Ry := Lib.hid (Ry.out.below hbl)
              replace HNy := Lib.hid (HNy.out.below hbl)
              replace CX := Lib.hid (CX.out.below hbl CX.out.lt)
              replace CY := Lib.hid (CY.out.below hbl CY.out.lt)
              replace VP := Lib.hid (VP.out.below hbl VP.out.lt)
              replace VX := Lib.hid (VX.out.below hbl VX.out.lt)
              replace HW := Lib.hid (bel_trans HW.out hbl); clear hbl
              clear CX0 CX1 CX2 CY0 CY1 CY2 VP0 VP1 VP2
              have CX0 : w5.cell? ⟨w.heap.size, 0, none⟩ = some (.bool s) := CX.out.cell 0
              have CX1 : w5.cell? ⟨w.heap.size, 1, none⟩ = some (.slice A (limbs n).length c) := CX.out.cell 1
              have CX2 : w5.cell? ⟨w.heap.size, 2, none⟩ = some (.slice B (limbs d0).length d) := CX.out.cell 2
              have CY0 : w5.cell? ⟨w.heap.size + 1, 0, none⟩ = some (.bool s') := CY.out.cell 0
              have CY1 : w5.cell? ⟨w.heap.size + 1, 1, none⟩ = some (.slice A' (limbs m).length c') := CY.out.cell 1
              have CY2 : w5.cell? ⟨w.heap.size + 1, 2, none⟩ = some (.slice B' (limbs f0).length d') := CY.out.cell 2
              have VP0 : w5.cell? ⟨w2.heap.size, 0, none⟩ = some (.bool q3.s) := VP.out.cell 0
              have VP1 : w5.cell? ⟨w2.heap.size, 1, none⟩ = some (.slice Ap (limbs q3.n).length cp) := VP.out.cell 1
              have VP2 : w5.cell? ⟨w2.heap.size, 2, none⟩ = some (.slice Ar (limbs q3.d).length cr) := VP.out.cell 2
              go_wp2_with fail
              refine (qcmp_is (v := -v) A' B' A B c' d' c d ⟨s', m, f0⟩ ⟨s, n, d0⟩ _ R3.out R4.out R1.out R2.out KC.out.2.2.1 KC.out.2.2.2 KC.out.1 KC.out.2.1 HP.out.1 HP.out.2.1 HQ.out.1 HQ.out.2.1 HP.out.2.2 HQ.out.2.2 ⟨HV.out.2.2, HV.out.2.1⟩ (cmp_turned (a := ⟨s, n, d0⟩) HQ.out.2.2 HP.out.2.2 HV.out.1)).mono ?_
              rintro e w6 ⟨rfl, hbl⟩
              replace R1 := Lib.hid (R1.out.below hbl)
              replace R2 := Lib.hid (R2.out.below hbl)
              replace R3 := Lib.hid (R3.out.below hbl)
              replace R4 := Lib.hid (R4.out.below hbl)
              replace Rp := Lib.hid (Rp.out.below hbl)
              replace HNp := Lib.hid (HNp.out.below hbl)
              replace Rr := Lib.hid (Rr.out.below hbl)
              replace HNr := Lib.hid (HNr.out.below hbl)
              replace Rx := Lib.hid (Rx.out.below hbl)
              replace HNx := Lib.hid (HNx.out.below hbl)
              replace Ry := Lib.hid (Ry.out.below hbl)
              replace HNy := Lib.hid (HNy.out.below hbl)
              replace CX := Lib.hid (CX.out.below hbl CX.out.lt)
              replace CY := Lib.hid (CY.out.below hbl CY.out.lt)
              replace VP := Lib.hid (VP.out.below hbl VP.out.lt)
              replace VX := Lib.hid (VX.out.below hbl VX.out.lt)
              replace HW := Lib.hid (bel_trans HW.out hbl); clear hbl
              clear CX0 CX1 CX2 CY0 CY1 CY2 VP0 VP1 VP2
              have CX0 : w6.cell? ⟨w.heap.size, 0, none⟩ = some (.bool s) := CX.out.cell 0
              have CX1 : w6.cell? ⟨w.heap.size, 1, none⟩ = some (.slice A (limbs n).length c) := CX.out.cell 1
              have CX2 : w6.cell? ⟨w.heap.size, 2, none⟩ = some (.slice B (limbs d0).length d) := CX.out.cell 2
              have CY0 : w6.cell? ⟨w.heap.size + 1, 0, none⟩ = some (.bool s') := CY.out.cell 0
              have CY1 : w6.cell? ⟨w.heap.size + 1, 1, none⟩ = some (.slice A' (limbs m).length c') := CY.out.cell 1
              have CY2 : w6.cell? ⟨w.heap.size + 1, 2, none⟩ = some (.slice B' (limbs f0).length d') := CY.out.cell 2
              have VP0 : w6.cell? ⟨w2.heap.size, 0, none⟩ = some (.bool q3.s) := VP.out.cell 0
              have VP1 : w6.cell? ⟨w2.heap.size, 1, none⟩ = some (.slice Ap (limbs q3.n).length cp) := VP.out.cell 1
              have VP2 : w6.cell? ⟨w2.heap.size, 2, none⟩ = some (.slice Ar (limbs q3.d).length cr) := VP.out.cell 2
              go_wp2_with fail
              refine (aliveQ _).mono ?_
              rintro e w7 ⟨rfl, hbl⟩
              replace R1 := Lib.hid (R1.out.below hbl)
              replace R2 := Lib.hid (R2.out.below hbl)
              replace R3 := Lib.hid (R3.out.below hbl)
              replace R4 := Lib.hid (R4.out.below hbl)
              replace Rp := Lib.hid (Rp.out.below hbl)
              replace HNp := Lib.hid (HNp.out.below hbl)
              replace Rr := Lib.hid (Rr.out.below hbl)
              replace HNr := Lib.hid (HNr.out.below hbl)
              replace Rx := Lib.hid (Rx.out.below hbl)
              replace HNx := Lib.hid (HNx.out.below hbl)
              replace Ry := Lib.hid (Ry.out.below hbl)
              replace HNy := Lib.hid (HNy.out.below hbl)
              replace CX := Lib.hid (CX.out.below hbl CX.out.lt)
              replace CY := Lib.hid (CY.out.below hbl CY.out.lt)
              replace VP := Lib.hid (VP.out.below hbl VP.out.lt)
              replace VX := Lib.hid (VX.out.below hbl VX.out.lt)
              replace HW := Lib.hid (bel_trans HW.out hbl); clear hbl
              clear CX0 CX1 CX2 CY0 CY1 CY2 VP0 VP1 VP2
              have CX0 : w7.cell? ⟨w.heap.size, 0, none⟩ = some (.bool s) := CX.out.cell 0
              have CX1 : w7.cell? ⟨w.heap.size, 1, none⟩ = some (.slice A (limbs n).length c) := CX.out.cell 1
              have CX2 : w7.cell? ⟨w.heap.size, 2, none⟩ = some (.slice B (limbs d0).length d) := CX.out.cell 2
              have CY0 : w7.cell? ⟨w.heap.size + 1, 0, none⟩ = some (.bool s') := CY.out.cell 0
              have CY1 : w7.cell? ⟨w.heap.size + 1, 1, none⟩ = some (.slice A' (limbs m).length c') := CY.out.cell 1
              have CY2 : w7.cell? ⟨w.heap.size + 1, 2, none⟩ = some (.slice B' (limbs f0).length d') := CY.out.cell 2
              have VP0 : w7.cell? ⟨w2.heap.size, 0, none⟩ = some (.bool q3.s) := VP.out.cell 0
              have VP1 : w7.cell? ⟨w2.heap.size, 1, none⟩ = some (.slice Ap (limbs q3.n).length cp) := VP.out.cell 1
              have VP2 : w7.cell? ⟨w2.heap.size, 2, none⟩ = some (.slice Ar (limbs q3.d).length cr) := VP.out.cell 2
              go_wp2_with fail
              refine (refSame_ok (b := (v == 0)) s s' A B A' B' c d c' d' (limbs n) (limbs d0) (limbs m) (limbs f0) _ R1.out R3.out L18.out.1 R2.out R4.out L18.out.2.1 (like_cmp (a := ⟨s, n, d0⟩) (b := ⟨s', m, f0⟩) HQ.out.2.2 HP.out.2.2 HV.out.1)).mono ?_
              rintro e w8 ⟨rfl, hbl⟩
              replace R1 := Lib.hid (R1.out.below hbl)
              replace R2 := Lib.hid (R2.out.below hbl)
              replace R3 := Lib.hid (R3.out.below hbl)
              replace R4 := Lib.hid (R4.out.below hbl)
              replace Rp := Lib.hid (Rp.out.below hbl)
              replace HNp := Lib.hid (HNp.out.below hbl)
              replace Rr := Lib.hid (Rr.out.below hbl)
              replace HNr := Lib.hid (HNr.out.below hbl)
              replace Rx := Lib.hid (Rx.out.below hbl)
              replace HNx := Lib.hid (HNx.out.below hbl)
              replace Ry := Lib.hid (Ry.out.below hbl)
              replace HNy := Lib.hid (HNy.out.below hbl)
              replace CX := Lib.hid (CX.out.below hbl CX.out.lt)
              replace CY := Lib.hid (CY.out.below hbl CY.out.lt)
              replace VP := Lib.hid (VP.out.below hbl VP.out.lt)
              replace VX := Lib.hid (VX.out.below hbl VX.out.lt)
              replace HW := Lib.hid (bel_trans HW.out hbl); clear hbl
              clear CX0 CX1 CX2 CY0 CY1 CY2 VP0 VP1 VP2
              have CX0 : w8.cell? ⟨w.heap.size, 0, none⟩ = some (.bool s) := CX.out.cell 0
              have CX1 : w8.cell? ⟨w.heap.size, 1, none⟩ = some (.slice A (limbs n).length c) := CX.out.cell 1
              have CX2 : w8.cell? ⟨w.heap.size, 2, none⟩ = some (.slice B (limbs d0).length d) := CX.out.cell 2
              have CY0 : w8.cell? ⟨w.heap.size + 1, 0, none⟩ = some (.bool s') := CY.out.cell 0
              have CY1 : w8.cell? ⟨w.heap.size + 1, 1, none⟩ = some (.slice A' (limbs m).length c') := CY.out.cell 1
              have CY2 : w8.cell? ⟨w.heap.size + 1, 2, none⟩ = some (.slice B' (limbs f0).length d') := CY.out.cell 2
              have VP0 : w8.cell? ⟨w2.heap.size, 0, none⟩ = some (.bool q3.s) := VP.out.cell 0
              have VP1 : w8.cell? ⟨w2.heap.size, 1, none⟩ = some (.slice Ap (limbs q3.n).length cp) := VP.out.cell 1
              have VP2 : w8.cell? ⟨w2.heap.size, 2, none⟩ = some (.slice Ar (limbs q3.d).length cr) := VP.out.cell 2
              go_wp2
              go_ret
              exact ⟨rfl, HW.out⟩
            · have HV := Lib.hid hfit; clear hfit
              go_wp2_with fail
              refine (qcmp_over A B A' B' c d c' d' ⟨s, n, d0⟩ ⟨s', m, f0⟩ _ R1.out R2.out R3.out R4.out KC.out.1 KC.out.2.1 KC.out.2.2.1 KC.out.2.2.2 HQ.out.1 HQ.out.2.1 HP.out.1 HP.out.2.1 HQ.out.2.2 HP.out.2.2 HV.out).mono ?_
              rintro e w5 ⟨rfl, hbl⟩
              replace R1 := Lib.hid (R1.out.below hbl)
              replace R2 := Lib.hid (R2.out.below hbl)
              replace R3 := Lib.hid (R3.out.below hbl)
              replace R4 := Lib.hid (R4.out.below hbl)
              replace Rp := Lib.hid (Rp.out.below hbl)
              replace HNp := Lib.hid (HNp.out.below hbl)
              replace Rr := Lib.hid (Rr.out.below hbl)
              replace HNr := Lib.hid (HNr.out.below hbl)
              replace Rx := Lib.hid (Rx.out.below hbl)
              replace HNx := Lib.hid (HNx.out.below hbl)
              replace Ry := Lib.hid (Ry.out.below hbl)
              replace HNy := Lib.hid (HNy.out.below hbl)
              replace CX := Lib.hid (CX.out.below hbl CX.out.lt)
              replace CY := Lib.hid (CY.out.below hbl CY.out.lt)
              replace VP := Lib.hid (VP.out.below hbl VP.out.lt)
              replace VX := Lib.hid (VX.out.below hbl VX.out.lt)
              replace HW := Lib.hid (bel_trans HW.out hbl); clear hbl
              clear CX0 CX1 CX2 CY0 CY1 CY2 VP0 VP1 VP2
              have CX0 : w5.cell? ⟨w.heap.size, 0, none⟩ = some (.bool s) := CX.out.cell 0
              have CX1 : w5.cell? ⟨w.heap.size, 1, none⟩ = some (.slice A (limbs n).length c) := CX.out.cell 1
              have CX2 : w5.cell? ⟨w.heap.size, 2, none⟩ = some (.slice B (limbs d0).length d) := CX.out.cell 2
              have CY0 : w5.cell? ⟨w.heap.size + 1, 0, none⟩ = some (.bool s') := CY.out.cell 0
              have CY1 : w5.cell? ⟨w.heap.size + 1, 1, none⟩ = some (.slice A' (limbs m).length c') := CY.out.cell 1
              have CY2 : w5.cell? ⟨w.heap.size + 1, 2, none⟩ = some (.slice B' (limbs f0).length d') := CY.out.cell 2
              have VP0 : w5.cell? ⟨w2.heap.size, 0, none⟩ = some (.bool q3.s) := VP.out.cell 0
              have VP1 : w5.cell? ⟨w2.heap.size, 1, none⟩ = some (.slice Ap (limbs q3.n).length cp) := VP.out.cell 1
              have VP2 : w5.cell? ⟨w2.heap.size, 2, none⟩ = some (.slice Ar (limbs q3.d).length cr) := VP.out.cell 2
              go_wp2_with fail
              refine (qcmp_over A' B' A B c' d' c d ⟨s', m, f0⟩ ⟨s, n, d0⟩ _ R3.out R4.out R1.out R2.out KC.out.2.2.1 KC.out.2.2.2 KC.out.1 KC.out.2.1 HP.out.1 HP.out.2.1 HQ.out.1 HQ.out.2.1 HP.out.2.2 HQ.out.2.2 (fun h => HV.out ⟨h.2, h.1⟩)).mono ?_
              rintro e w6 ⟨rfl, hbl⟩
              replace R1 := Lib.hid (R1.out.below hbl)
              replace R2 := Lib.hid (R2.out.below hbl)
              replace R3 := Lib.hid (R3.out.below hbl)
              replace R4 := Lib.hid (R4.out.below hbl)
              replace Rp := Lib.hid (Rp.out.below hbl)
              replace HNp := Lib.hid (HNp.out.below hbl)
              replace Rr := Lib.hid (Rr.out.below hbl)
              replace HNr := Lib.hid (HNr.out.below hbl)
              replace Rx := Lib.hid (Rx.out.below hbl)
              replace HNx := Lib.hid (HNx.out.below hbl)
              replace Ry := Lib.hid (Ry.out.below hbl)
              replace HNy := Lib.hid (HNy.out.below hbl)
              replace CX := Lib.hid (CX.out.below hbl CX.out.lt)
              replace CY := Lib.hid (CY.out.below hbl CY.out.lt)
              replace VP := Lib.hid (VP.out.below hbl VP.out.lt)
              replace VX := Lib.hid (VX.out.below hbl VX.out.lt)
              replace HW := Lib.hid (bel_trans HW.out hbl); clear hbl
              clear CX0 CX1 CX2 CY0 CY1 CY2 VP0 VP1 VP2
              have CX0 : w6.cell? ⟨w.heap.size, 0, none⟩ = some (.bool s) := CX.out.cell 0
              have CX1 : w6.cell? ⟨w.heap.size, 1, none⟩ = some (.slice A (limbs n).length c) := CX.out.cell 1
              have CX2 : w6.cell? ⟨w.heap.size, 2, none⟩ = some (.slice B (limbs d0).length d) := CX.out.cell 2
              have CY0 : w6.cell? ⟨w.heap.size + 1, 0, none⟩ = some (.bool s') := CY.out.cell 0
              have CY1 : w6.cell? ⟨w.heap.size + 1, 1, none⟩ = some (.slice A' (limbs m).length c') := CY.out.cell 1
              have CY2 : w6.cell? ⟨w.heap.size + 1, 2, none⟩ = some (.slice B' (limbs f0).length d') := CY.out.cell 2
              have VP0 : w6.cell? ⟨w2.heap.size, 0, none⟩ = some (.bool q3.s) := VP.out.cell 0
              have VP1 : w6.cell? ⟨w2.heap.size, 1, none⟩ = some (.slice Ap (limbs q3.n).length cp) := VP.out.cell 1
              have VP2 : w6.cell? ⟨w2.heap.size, 2, none⟩ = some (.slice Ar (limbs q3.d).length cr) := VP.out.cell 2
              go_wp2_with fail
              refine (aliveQ _).mono ?_
              rintro e w7 ⟨rfl, hbl⟩
              replace R1 := Lib.hid (R1.out.below hbl)
              replace R2 := Lib.hid (R2.out.below hbl)
              replace R3 := Lib.hid (R3.out.below hbl)
              replace R4 := Lib.hid (R4.out.below hbl)
              replace Rp := Lib.hid (Rp.out.below hbl)
              replace HNp := Lib.hid (HNp.out.below hbl)
              replace Rr := Lib.hid (Rr.out.below hbl)
              replace HNr := Lib.hid (HNr.out.below hbl)
              replace Rx := Lib.hid (Rx.out.below hbl)
              replace HNx := Lib.hid (HNx.out.below hbl)
              replace Ry := Lib.hid (Ry.out.below hbl)
              replace HNy := Lib.hid (HNy.out.below hbl)
              replace CX := Lib.hid (CX.out.below hbl CX.out.lt)
              replace CY := Lib.hid (CY.out.below hbl CY.out.lt)
              replace VP := Lib.hid (VP.out.below hbl VP.out.lt)
              replace VX := Lib.hid (VX.out.below hbl VX.out.lt)
              replace HW := Lib.hid (bel_trans HW.out hbl); clear hbl
              clear CX0 CX1 CX2 CY0 CY1 CY2 VP0 VP1 VP2
              have CX0 : w7.cell? ⟨w.heap.size, 0, none⟩ = some (.bool s) := CX.out.cell 0
              have CX1 : w7.cell? ⟨w.heap.size, 1, none⟩ = some (.slice A (limbs n).length c) := CX.out.cell 1
              have CX2 : w7.cell? ⟨w.heap.size, 2, none⟩ = some (.slice B (limbs d0).length d) := CX.out.cell 2
              have CY0 : w7.cell? ⟨w.heap.size + 1, 0, none⟩ = some (.bool s') := CY.out.cell 0
              have CY1 : w7.cell? ⟨w.heap.size + 1, 1, none⟩ = some (.slice A' (limbs m).length c') := CY.out.cell 1
              have CY2 : w7.cell? ⟨w.heap.size + 1, 2, none⟩ = some (.slice B' (limbs f0).length d') := CY.out.cell 2
              have VP0 : w7.cell? ⟨w2.heap.size, 0, none⟩ = some (.bool q3.s) := VP.out.cell 0
              have VP1 : w7.cell? ⟨w2.heap.size, 1, none⟩ = some (.slice Ap (limbs q3.n).length cp) := VP.out.cell 1
              have VP2 : w7.cell? ⟨w2.heap.size, 2, none⟩ = some (.slice Ar (limbs q3.d).length cr) := VP.out.cell 2
              go_wp2
              go_ret
              exact ⟨rfl, HW.out⟩
          · obtain ⟨rfl, hqf, t5, t6, r5⟩ := A4.out.good hk
            have HX := Lib.hid (And.intro hqf (len18 t5)); clear hqf hk t6 r5
            have HX2 := Lib.hid (show (limbs q4.d).length ≤ 18 by rw [HX.out.1]; exact L18.out.2.1)
            clear t5
            go_wp2_with fail
            refine (ratRight_q q3 Ap Ar cp cr _ Rp.out Rr.out HCp.out HCr.out HS.out.1 HS.out.2.1 HS.out.2.2).mono ?_
            rintro e w4 ⟨rfl, hbl⟩
            replace R1 := Lib.hid (R1.out.below hbl)
            replace R2 := Lib.hid (R2.out.below hbl)
            replace R3 := Lib.hid (R3.out.below hbl)
            replace R4 := Lib.hid (R4.out.below hbl)
            replace Rp := Lib.hid (Rp.out.below hbl)
            replace HNp := Lib.hid (HNp.out.below hbl)
            replace Rr := Lib.hid (Rr.out.below hbl)
            replace HNr := Lib.hid (HNr.out.below hbl)
            replace Rx := Lib.hid (Rx.out.below hbl)
            replace HNx := Lib.hid (HNx.out.below hbl)
            replace Ry := Lib.hid (Ry.out.below hbl)
            replace HNy := Lib.hid (HNy.out.below hbl)
            replace CX := Lib.hid (CX.out.below hbl CX.out.lt)
            replace CY := Lib.hid (CY.out.below hbl CY.out.lt)
            replace VP := Lib.hid (VP.out.below hbl VP.out.lt)
            replace VX := Lib.hid (VX.out.below hbl VX.out.lt)
            replace HW := Lib.hid (bel_trans HW.out hbl); clear hbl
            clear CX0 CX1 CX2 CY0 CY1 CY2 VP0 VP1 VP2 VX0 VX1 VX2
            have CX0 : w4.cell? ⟨w.heap.size, 0, none⟩ = some (.bool s) := CX.out.cell 0
            have CX1 : w4.cell? ⟨w.heap.size, 1, none⟩ = some (.slice A (limbs n).length c) := CX.out.cell 1
            have CX2 : w4.cell? ⟨w.heap.size, 2, none⟩ = some (.slice B (limbs d0).length d) := CX.out.cell 2
            have CY0 : w4.cell? ⟨w.heap.size + 1, 0, none⟩ = some (.bool s') := CY.out.cell 0
            have CY1 : w4.cell? ⟨w.heap.size + 1, 1, none⟩ = some (.slice A' (limbs m).length c') := CY.out.cell 1
            have CY2 : w4.cell? ⟨w.heap.size + 1, 2, none⟩ = some (.slice B' (limbs f0).length d') := CY.out.cell 2
            have VP0 : w4.cell? ⟨w2.heap.size, 0, none⟩ = some (.bool q3.s) := VP.out.cell 0
            have VP1 : w4.cell? ⟨w2.heap.size, 1, none⟩ = some (.slice Ap (limbs q3.n).length cp) := VP.out.cell 1
            have VP2 : w4.cell? ⟨w2.heap.size, 2, none⟩ = some (.slice Ar (limbs q3.d).length cr) := VP.out.cell 2
            have VX0 : w4.cell? ⟨w3.heap.size, 0, none⟩ = some (.bool q4.s) := VX.out.cell 0
            have VX1 : w4.cell? ⟨w3.heap.size, 1, none⟩ = some (.slice Ax (limbs q4.n).length cx) := VX.out.cell 1
            have VX2 : w4.cell? ⟨w3.heap.size, 2, none⟩ = some (.slice Ay (limbs q4.d).length cy) := VX.out.cell 2
            go_wp2_with fail
            refine (refSame_ok (b := true) q4.s s Ax Ay A B cx cy c d (limbs q4.n) (limbs q4.d) (limbs n) (limbs d0) _ Rx.out R1.out HX.out.2 Ry.out R2.out HX2.out (by rw [HX.out.1]; exact like_self _ _ _)).mono ?_
            rintro e w5 ⟨rfl, hbl⟩
            replace R1 := Lib.hid (R1.out.below hbl)
            replace R2 := Lib.hid (R2.out.below hbl)
            replace R3 := Lib.hid (R3.out.below hbl)
            replace R4 := Lib.hid (R4.out.below hbl)
            replace Rp := Lib.hid (Rp.out.below hbl)
            replace HNp := Lib.hid (HNp.out.below hbl)
            replace Rr := Lib.hid (Rr.out.below hbl)
            replace HNr := Lib.hid (HNr.out.below hbl)
            replace Rx := Lib.hid (Rx.out.below hbl)
            replace HNx := Lib.hid (HNx.out.below hbl)
            replace Ry := Lib.hid (Ry.out.below hbl)
            replace HNy := Lib.hid (HNy.out.below hbl)
            replace CX := Lib.hid (CX.out.below hbl CX.out.lt)
            replace CY := Lib.hid (CY.out.below hbl CY.out.lt)
            replace VP := Lib.hid (VP.out.below hbl VP.out.lt)
            replace VX := Lib.hid (VX.out.below hbl VX.out.lt)
            replace HW := Lib.hid (bel_trans HW.out hbl); clear hbl
            clear CX0 CX1 CX2 CY0 CY1 CY2 VP0 VP1 VP2 VX0 VX1 VX2
            have CX0 : w5.cell? ⟨w.heap.size, 0, none⟩ = some (.bool s) := CX.out.cell 0
            have CX1 : w5.cell? ⟨w.heap.size, 1, none⟩ = some (.slice A (limbs n).length c) := CX.out.cell 1
            have CX2 : w5.cell? ⟨w.heap.size, 2, none⟩ = some (.slice B (limbs d0).length d) := CX.out.cell 2
            have CY0 : w5.cell? ⟨w.heap.size + 1, 0, none⟩ = some (.bool s') := CY.out.cell 0
            have CY1 : w5.cell? ⟨w.heap.size + 1, 1, none⟩ = some (.slice A' (limbs m).length c') := CY.out.cell 1
            have CY2 : w5.cell? ⟨w.heap.size + 1, 2, none⟩ = some (.slice B' (limbs f0).length d') := CY.out.cell 2
            have VP0 : w5.cell? ⟨w2.heap.size, 0, none⟩ = some (.bool q3.s) := VP.out.cell 0
            have VP1 : w5.cell? ⟨w2.heap.size, 1, none⟩ = some (.slice Ap (limbs q3.n).length cp) := VP.out.cell 1
            have VP2 : w5.cell? ⟨w2.heap.size, 2, none⟩ = some (.slice Ar (limbs q3.d).length cr) := VP.out.cell 2
            have VX0 : w5.cell? ⟨w3.heap.size, 0, none⟩ = some (.bool q4.s) := VX.out.cell 0
            have VX1 : w5.cell? ⟨w3.heap.size, 1, none⟩ = some (.slice Ax (limbs q4.n).length cx) := VX.out.cell 1
            have VX2 : w5.cell? ⟨w3.heap.size, 2, none⟩ = some (.slice Ay (limbs q4.d).length cy) := VX.out.cell 2
            go_upto_region 13 with fail
            by_cases hfit : n * f0 < Top ∧ m * d0 < Top
            · obtain ⟨v, hv⟩ : ∃ v, cmpS s s' (n * f0) (m * d0) = v := ⟨_, rfl⟩
              have g0 : IntKind.i64.wrap v = v := by rw [← hv]; have := wrap_cmpS s' s (m * d0) (n * f0); rw [cmp_turned (a := ⟨s, n, d0⟩) HQ.out.2.2 HP.out.2.2 hv] at this; simpa [hv] using this
              have HV := Lib.hid (And.intro hv hfit); clear hv hfit
              go_wp2_with fail
              refine (qcmp_is (v := v) A B A' B' c d c' d' ⟨s, n, d0⟩ ⟨s', m, f0⟩ _ R1.out R2.out R3.out R4.out KC.out.1 KC.out.2.1 KC.out.2.2.1 KC.out.2.2.2 HQ.out.1 HQ.out.2.1 HP.out.1 HP.out.2.1 HQ.out.2.2 HP.out.2.2 HV.out.2 HV.out.1).mono ?_
              rintro e w6 ⟨rfl, hbl⟩
              replace R1 := Lib.hid (R1.out.below hbl)
              replace R2 := Lib.hid (R2.out.below hbl)
              replace R3 := Lib.hid (R3.out.below hbl)
              replace R4 := Lib.hid (R4.out.below hbl)
              replace Rp := Lib.hid (Rp.out.below hbl)
              replace HNp := Lib.hid (HNp.out.below hbl)
              replace Rr := Lib.hid (Rr.out.below hbl)
              replace HNr := Lib.hid (HNr.out.below hbl)
              replace Rx := Lib.hid (Rx.out.below hbl)
              replace HNx := Lib.hid (HNx.out.below hbl)
              replace Ry := Lib.hid (Ry.out.below hbl)
              replace HNy := Lib.hid (HNy.out.below hbl)
              replace CX := Lib.hid (CX.out.below hbl CX.out.lt)
              replace CY := Lib.hid (CY.out.below hbl CY.out.lt)
              replace VP := Lib.hid (VP.out.below hbl VP.out.lt)
              replace VX := Lib.hid (VX.out.below hbl VX.out.lt)
              replace HW := Lib.hid (bel_trans HW.out hbl); clear hbl
              clear CX0 CX1 CX2 CY0 CY1 CY2 VP0 VP1 VP2 VX0 VX1 VX2
              have CX0 : w6.cell? ⟨w.heap.size, 0, none⟩ = some (.bool s) := CX.out.cell 0
              have CX1 : w6.cell? ⟨w.heap.size, 1, none⟩ = some (.slice A (limbs n).length c) := CX.out.cell 1
              have CX2 : w6.cell? ⟨w.heap.size, 2, none⟩ = some (.slice B (limbs d0).length d) := CX.out.cell 2
              have CY0 : w6.cell? ⟨w.heap.size + 1, 0, none⟩ = some (.bool s') := CY.out.cell 0
              have CY1 : w6.cell? ⟨w.heap.size + 1, 1, none⟩ = some (.slice A' (limbs m).length c') := CY.out.cell 1
              have CY2 : w6.cell? ⟨w.heap.size + 1, 2, none⟩ = some (.slice B' (limbs f0).length d') := CY.out.cell 2
              have VP0 : w6.cell? ⟨w2.heap.size, 0, none⟩ = some (.bool q3.s) := VP.out.cell 0
              have VP1 : w6.cell? ⟨w2.heap.size, 1, none⟩ = some (.slice Ap (limbs q3.n).length cp) := VP.out.cell 1
              have VP2 : w6.cell? ⟨w2.heap.size, 2, none⟩ = some (.slice Ar (limbs q3.d).length cr) := VP.out.cell 2
              have VX0 : w6.cell? ⟨w3.heap.size, 0, none⟩ = some (.bool q4.s) := VX.out.cell 0
              have VX1 : w6.cell? ⟨w3.heap.size, 1, none⟩ = some (.slice Ax (limbs q4.n).length cx) := VX.out.cell 1
              have VX2 : w6.cell? ⟨w3.heap.size, 2, none⟩ = some (.slice Ay (limbs q4.d).length cy) := VX.out.cell 2
              go_wp2_with fail
              refine (qcmp_is (v := -v) A' B' A B c' d' c d ⟨s', m, f0⟩ ⟨s, n, d0⟩ _ R3.out R4.out R1.out R2.out KC.out.2.2.1 KC.out.2.2.2 KC.out.1 KC.out.2.1 HP.out.1 HP.out.2.1 HQ.out.1 HQ.out.2.1 HP.out.2.2 HQ.out.2.2 ⟨HV.out.2.2, HV.out.2.1⟩ (cmp_turned (a := ⟨s, n, d0⟩) HQ.out.2.2 HP.out.2.2 HV.out.1)).mono ?_
              rintro e w7 ⟨rfl, hbl⟩
              replace R1 := Lib.hid (R1.out.below hbl)
              replace R2 := Lib.hid (R2.out.below hbl)
              replace R3 := Lib.hid (R3.out.below hbl)
              replace R4 := Lib.hid (R4.out.below hbl)
              replace Rp := Lib.hid (Rp.out.below hbl)
              replace HNp := Lib.hid (HNp.out.below hbl)
              replace Rr := Lib.hid (Rr.out.below hbl)
              replace HNr := Lib.hid (HNr.out.below hbl)
              replace Rx := Lib.hid (Rx.out.below hbl)
              replace HNx := Lib.hid (HNx.out.below hbl)
              replace Ry := Lib.hid (Ry.out.below hbl)
              replace HNy := Lib.hid (HNy.out.below hbl)
              replace CX := Lib.hid (CX.out.below hbl CX.out.lt)
              replace CY := Lib.hid (CY.out.below hbl CY.out.lt)
              replace VP := Lib.hid (VP.out.below hbl VP.out.lt)
              replace VX := Lib.hid (VX.out.below hbl VX.out.lt)
              replace HW := Lib.hid (bel_trans HW.out hbl); clear hbl
              clear CX0 CX1 CX2 CY0 CY1 CY2 VP0 VP1 VP2 VX0 VX1 VX2
              have CX0 : w7.cell? ⟨w.heap.size, 0, none⟩ = some (.bool s) := CX.out.cell 0
              have CX1 : w7.cell? ⟨w.heap.size, 1, none⟩ = some (.slice A (limbs n).length c) := CX.out.cell 1
              have CX2 : w7.cell? ⟨w.heap.size, 2, none⟩ = some (.slice B (limbs d0).length d) := CX.out.cell 2
              have CY0 : w7.cell? ⟨w.heap.size + 1, 0, none⟩ = some (.bool s') := CY.out.cell 0
              have CY1 : w7.cell? ⟨w.heap.size + 1, 1, none⟩ = some (.slice A' (limbs m).length c') := CY.out.cell 1
              have CY2 : w7.cell? ⟨w.heap.size + 1, 2, none⟩ = some (.slice B' (limbs f0).length d') := CY.out.cell 2
              have VP0 : w7.cell? ⟨w2.heap.size, 0, none⟩ = some (.bool q3.s) := VP.out.cell 0
              have VP1 : w7.cell? ⟨w2.heap.size, 1, none⟩ = some (.slice Ap (limbs q3.n).length cp) := VP.out.cell 1
              have VP2 : w7.cell? ⟨w2.heap.size, 2, none⟩ = some (.slice Ar (limbs q3.d).length cr) := VP.out.cell 2
              have VX0 : w7.cell? ⟨w3.heap.size, 0, none⟩ = some (.bool q4.s) := VX.out.cell 0
              have VX1 : w7.cell? ⟨w3.heap.size, 1, none⟩ = some (.slice Ax (limbs q4.n).length cx) := VX.out.cell 1
              have VX2 : w7.cell? ⟨w3.heap.size, 2, none⟩ = some (.slice Ay (limbs q4.d).length cy) := VX.out.cell 2
              go_wp2_with fail
              refine (aliveQ _).mono ?_
              rintro e w8 ⟨rfl, hbl⟩
              replace R1 := Lib.hid (R1.out.below hbl)
              replace R2 := Lib.hid (R2.out.below hbl)
              replace R3 := Lib.hid (R3.out.below hbl)
              replace R4 := Lib.hid (R4.out.below hbl)
              replace Rp := Lib.hid (Rp.out.below hbl)
              replace HNp := Lib.hid (HNp.out.below hbl)
              replace Rr := Lib.hid (Rr.out.below hbl)
              replace HNr := Lib.hid (HNr.out.below hbl)
              replace Rx := Lib.hid (Rx.out.below hbl)
              replace HNx := Lib.hid (HNx.out.below hbl)
              replace Ry := Lib.hid (Ry.out.below hbl)
              replace HNy := Lib.hid (HNy.out.below hbl)
              replace CX := Lib.hid (CX.out.below hbl CX.out.lt)
              replace CY := Lib.hid (CY.out.below hbl CY.out.lt)
              replace VP := Lib.hid (VP.out.below hbl VP.out.lt)
              replace VX := Lib.hid (VX.out.below hbl VX.out.lt)
              replace HW := Lib.hid (bel_trans HW.out hbl); clear hbl
              clear CX0 CX1 CX2 CY0 CY1 CY2 VP0 VP1 VP2 VX0 VX1 VX2
              have CX0 : w8.cell? ⟨w.heap.size, 0, none⟩ = some (.bool s) := CX.out.cell 0
              have CX1 : w8.cell? ⟨w.heap.size, 1, none⟩ = some (.slice A (limbs n).length c) := CX.out.cell 1
              have CX2 : w8.cell? ⟨w.heap.size, 2, none⟩ = some (.slice B (limbs d0).length d) := CX.out.cell 2
              have CY0 : w8.cell? ⟨w.heap.size + 1, 0, none⟩ = some (.bool s') := CY.out.cell 0
              have CY1 : w8.cell? ⟨w.heap.size + 1, 1, none⟩ = some (.slice A' (limbs m).length c') := CY.out.cell 1
              have CY2 : w8.cell? ⟨w.heap.size + 1, 2, none⟩ = some (.slice B' (limbs f0).length d') := CY.out.cell 2
              have VP0 : w8.cell? ⟨w2.heap.size, 0, none⟩ = some (.bool q3.s) := VP.out.cell 0
              have VP1 : w8.cell? ⟨w2.heap.size, 1, none⟩ = some (.slice Ap (limbs q3.n).length cp) := VP.out.cell 1
              have VP2 : w8.cell? ⟨w2.heap.size, 2, none⟩ = some (.slice Ar (limbs q3.d).length cr) := VP.out.cell 2
              have VX0 : w8.cell? ⟨w3.heap.size, 0, none⟩ = some (.bool q4.s) := VX.out.cell 0
              have VX1 : w8.cell? ⟨w3.heap.size, 1, none⟩ = some (.slice Ax (limbs q4.n).length cx) := VX.out.cell 1
              have VX2 : w8.cell? ⟨w3.heap.size, 2, none⟩ = some (.slice Ay (limbs q4.d).length cy) := VX.out.cell 2
              go_wp2_with fail
              refine (refSame_ok (b := (v == 0)) s s' A B A' B' c d c' d' (limbs n) (limbs d0) (limbs m) (limbs f0) _ R1.out R3.out L18.out.1 R2.out R4.out L18.out.2.1 (like_cmp (a := ⟨s, n, d0⟩) (b := ⟨s', m, f0⟩) HQ.out.2.2 HP.out.2.2 HV.out.1)).mono ?_
              rintro e w9 ⟨rfl, hbl⟩
              replace R1 := Lib.hid (R1.out.below hbl)
              replace R2 := Lib.hid (R2.out.below hbl)
              replace R3 := Lib.hid (R3.out.below hbl)
              replace R4 := Lib.hid (R4.out.below hbl)
              replace Rp := Lib.hid (Rp.out.below hbl)
              replace HNp := Lib.hid (HNp.out.below hbl)
              replace Rr := Lib.hid (Rr.out.below hbl)
              replace HNr := Lib.hid (HNr.out.below hbl)
              replace Rx := Lib.hid (Rx.out.below hbl)
              replace HNx := Lib.hid (HNx.out.below hbl)
              replace Ry := Lib.hid (Ry.out.below hbl)
              replace HNy := Lib.hid (HNy.out.below hbl)
              replace CX := Lib.hid (CX.out.below hbl CX.out.lt)
              replace CY := Lib.hid (CY.out.below hbl CY.out.lt)
              replace VP := Lib.hid (VP.out.below hbl VP.out.lt)
              replace VX := Lib.hid (VX.out.below hbl VX.out.lt)
              replace HW := Lib.hid (bel_trans HW.out hbl); clear hbl
              clear CX0 CX1 CX2 CY0 CY1 CY2 VP0 VP1 VP2 VX0 VX1 VX2
              have CX0 : w9.cell? ⟨w.heap.size, 0, none⟩ = some (.bool s) := CX.out.cell 0
              have CX1 : w9.cell? ⟨w.heap.size, 1, none⟩ = some (.slice A (limbs n).length c) := CX.out.cell 1
              have CX2 : w9.cell? ⟨w.heap.size, 2, none⟩ = some (.slice B (limbs d0).length d) := CX.out.cell 2
              have CY0 : w9.cell? ⟨w.heap.size + 1, 0, none⟩ = some (.bool s') := CY.out.cell 0
              have CY1 : w9.cell? ⟨w.heap.size + 1, 1, none⟩ = some (.slice A' (limbs m).length c') := CY.out.cell 1
              have CY2 : w9.cell? ⟨w.heap.size + 1, 2, none⟩ = some (.slice B' (limbs f0).length d') := CY.out.cell 2
              have VP0 : w9.cell? ⟨w2.heap.size, 0, none⟩ = some (.bool q3.s) := VP.out.cell 0
              have VP1 : w9.cell? ⟨w2.heap.size, 1, none⟩ = some (.slice Ap (limbs q3.n).length cp) := VP.out.cell 1
              have VP2 : w9.cell? ⟨w2.heap.size, 2, none⟩ = some (.slice Ar (limbs q3.d).length cr) := VP.out.cell 2
              have VX0 : w9.cell? ⟨w3.heap.size, 0, none⟩ = some (.bool q4.s) := VX.out.cell 0
              have VX1 : w9.cell? ⟨w3.heap.size, 1, none⟩ = some (.slice Ax (limbs q4.n).length cx) := VX.out.cell 1
              have VX2 : w9.cell? ⟨w3.heap.size, 2, none⟩ = some (.slice Ay (limbs q4.d).length cy) := VX.out.cell 2
              go_wp2
              go_ret
              exact ⟨rfl, HW.out⟩
            · have HV := Lib.hid hfit; clear hfit
              go_wp2_with fail
              refine (qcmp_over A B A' B' c d c' d' ⟨s, n, d0⟩ ⟨s', m, f0⟩ _ R1.out R2.out R3.out R4.out KC.out.1 KC.out.2.1 KC.out.2.2.1 KC.out.2.2.2 HQ.out.1 HQ.out.2.1 HP.out.1 HP.out.2.1 HQ.out.2.2 HP.out.2.2 HV.out).mono ?_
              rintro e w6 ⟨rfl, hbl⟩
              replace R1 := Lib.hid (R1.out.below hbl)
              replace R2 := Lib.hid (R2.out.below hbl)
              replace R3 := Lib.hid (R3.out.below hbl)
              replace R4 := Lib.hid (R4.out.below hbl)
              replace Rp := Lib.hid (Rp.out.below hbl)
              replace HNp := Lib.hid (HNp.out.below hbl)
              replace Rr := Lib.hid (Rr.out.below hbl)
              replace HNr := Lib.hid (HNr.out.below hbl)
              replace Rx := Lib.hid (Rx.out.below hbl)
              replace HNx := Lib.hid (HNx.out.below hbl)
              replace Ry := Lib.hid (Ry.out.below hbl)
              replace HNy := Lib.hid (HNy.out.below hbl)
              replace CX := Lib.hid (CX.out.below hbl CX.out.lt)
              replace CY := Lib.hid (CY.out.below hbl CY.out.lt)
              replace VP := Lib.hid (VP.out.below hbl VP.out.lt)
              replace VX := Lib.hid (VX.out.below hbl VX.out.lt)
              replace HW := Lib.hid (bel_trans HW.out hbl); clear hbl
              clear CX0 CX1 CX2 CY0 CY1 CY2 VP0 VP1 VP2 VX0 VX1 VX2
              have CX0 : w6.cell? ⟨w.heap.size, 0, none⟩ = some (.bool s) := CX.out.cell 0
              have CX1 : w6.cell? ⟨w.heap.size, 1, none⟩ = some (.slice A (limbs n).length c) := CX.out.cell 1
              have CX2 : w6.cell? ⟨w.heap.size, 2, none⟩ = some (.slice B (limbs d0).length d) := CX.out.cell 2
              have CY0 : w6.cell? ⟨w.heap.size + 1, 0, none⟩ = some (.bool s') := CY.out.cell 0
              have CY1 : w6.cell? ⟨w.heap.size + 1, 1, none⟩ = some (.slice A' (limbs m).length c') := CY.out.cell 1
              have CY2 : w6.cell? ⟨w.heap.size + 1, 2, none⟩ = some (.slice B' (limbs f0).length d') := CY.out.cell 2
              have VP0 : w6.cell? ⟨w2.heap.size, 0, none⟩ = some (.bool q3.s) := VP.out.cell 0
              have VP1 : w6.cell? ⟨w2.heap.size, 1, none⟩ = some (.slice Ap (limbs q3.n).length cp) := VP.out.cell 1
              have VP2 : w6.cell? ⟨w2.heap.size, 2, none⟩ = some (.slice Ar (limbs q3.d).length cr) := VP.out.cell 2
              have VX0 : w6.cell? ⟨w3.heap.size, 0, none⟩ = some (.bool q4.s) := VX.out.cell 0
              have VX1 : w6.cell? ⟨w3.heap.size, 1, none⟩ = some (.slice Ax (limbs q4.n).length cx) := VX.out.cell 1
              have VX2 : w6.cell? ⟨w3.heap.size, 2, none⟩ = some (.slice Ay (limbs q4.d).length cy) := VX.out.cell 2
              go_wp2_with fail
              refine (qcmp_over A' B' A B c' d' c d ⟨s', m, f0⟩ ⟨s, n, d0⟩ _ R3.out R4.out R1.out R2.out KC.out.2.2.1 KC.out.2.2.2 KC.out.1 KC.out.2.1 HP.out.1 HP.out.2.1 HQ.out.1 HQ.out.2.1 HP.out.2.2 HQ.out.2.2 (fun h => HV.out ⟨h.2, h.1⟩)).mono ?_
              rintro e w7 ⟨rfl, hbl⟩
              replace R1 := Lib.hid (R1.out.below hbl)
              replace R2 := Lib.hid (R2.out.below hbl)
              replace R3 := Lib.hid (R3.out.below hbl)
              replace R4 := Lib.hid (R4.out.below hbl)
              replace Rp := Lib.hid (Rp.out.below hbl)
              replace HNp := Lib.hid (HNp.out.below hbl)
              replace Rr := Lib.hid (Rr.out.below hbl)
              replace HNr := Lib.hid (HNr.out.below hbl)
              replace Rx := Lib.hid (Rx.out.below hbl)
              replace HNx := Lib.hid (HNx.out.below hbl)
              replace Ry := Lib.hid (Ry.out.below hbl)
              replace HNy := Lib.hid (HNy.out.below hbl)
              replace CX := Lib.hid (CX.out.below hbl CX.out.lt)
              replace CY := Lib.hid (CY.out.below hbl CY.out.lt)
              replace VP := Lib.hid (VP.out.below hbl VP.out.lt)
              replace VX := Lib.hid (VX.out.below hbl VX.out.lt)
              replace HW := Lib.hid (bel_trans HW.out hbl); clear hbl
              clear CX0 CX1 CX2 CY0 CY1 CY2 VP0 VP1 VP2 VX0 VX1 VX2
              have CX0 : w7.cell? ⟨w.heap.size, 0, none⟩ = some (.bool s) := CX.out.cell 0
              have CX1 : w7.cell? ⟨w.heap.size, 1, none⟩ = some (.slice A (limbs n).length c) := CX.out.cell 1
              have CX2 : w7.cell? ⟨w.heap.size, 2, none⟩ = some (.slice B (limbs d0).length d) := CX.out.cell 2
              have CY0 : w7.cell? ⟨w.heap.size + 1, 0, none⟩ = some (.bool s') := CY.out.cell 0
              have CY1 : w7.cell? ⟨w.heap.size + 1, 1, none⟩ = some (.slice A' (limbs m).length c') := CY.out.cell 1
              have CY2 : w7.cell? ⟨w.heap.size + 1, 2, none⟩ = some (.slice B' (limbs f0).length d') := CY.out.cell 2
              have VP0 : w7.cell? ⟨w2.heap.size, 0, none⟩ = some (.bool q3.s) := VP.out.cell 0
              have VP1 : w7.cell? ⟨w2.heap.size, 1, none⟩ = some (.slice Ap (limbs q3.n).length cp) := VP.out.cell 1
              have VP2 : w7.cell? ⟨w2.heap.size, 2, none⟩ = some (.slice Ar (limbs q3.d).length cr) := VP.out.cell 2
              have VX0 : w7.cell? ⟨w3.heap.size, 0, none⟩ = some (.bool q4.s) := VX.out.cell 0
              have VX1 : w7.cell? ⟨w3.heap.size, 1, none⟩ = some (.slice Ax (limbs q4.n).length cx) := VX.out.cell 1
              have VX2 : w7.cell? ⟨w3.heap.size, 2, none⟩ = some (.slice Ay (limbs q4.d).length cy) := VX.out.cell 2
              go_wp2_with fail
              refine (aliveQ _).mono ?_
              rintro e w8 ⟨rfl, hbl⟩
              replace R1 := Lib.hid (R1.out.below hbl)
              replace R2 := Lib.hid (R2.out.below hbl)
              replace R3 := Lib.hid (R3.out.below hbl)
              replace R4 := Lib.hid (R4.out.below hbl)
              replace Rp := Lib.hid (Rp.out.below hbl)
              replace HNp := Lib.hid (HNp.out.below hbl)
              replace Rr := Lib.hid (Rr.out.below hbl)
              replace HNr := Lib.hid (HNr.out.below hbl)
              replace Rx := Lib.hid (Rx.out.below hbl)
              replace HNx := Lib.hid (HNx.out.below hbl)
              replace Ry := Lib.hid (Ry.out.below hbl)
              replace HNy := Lib.hid (HNy.out.below hbl)
              replace CX := Lib.hid (CX.out.below hbl CX.out.lt)
              replace CY := Lib.hid (CY.out.below hbl CY.out.lt)
              replace VP := Lib.hid (VP.out.below hbl VP.out.lt)
              replace VX := Lib.hid (VX.out.below hbl VX.out.lt)
              replace HW := Lib.hid (bel_trans HW.out hbl); clear hbl
              clear CX0 CX1 CX2 CY0 CY1 CY2 VP0 VP1 VP2 VX0 VX1 VX2
              have CX0 : w8.cell? ⟨w.heap.size, 0, none⟩ = some (.bool s) := CX.out.cell 0
              have CX1 : w8.cell? ⟨w.heap.size, 1, none⟩ = some (.slice A (limbs n).length c) := CX.out.cell 1
              have CX2 : w8.cell? ⟨w.heap.size, 2, none⟩ = some (.slice B (limbs d0).length d) := CX.out.cell 2
              have CY0 : w8.cell? ⟨w.heap.size + 1, 0, none⟩ = some (.bool s') := CY.out.cell 0
              have CY1 : w8.cell? ⟨w.heap.size + 1, 1, none⟩ = some (.slice A' (limbs m).length c') := CY.out.cell 1
              have CY2 : w8.cell? ⟨w.heap.size + 1, 2, none⟩ = some (.slice B' (limbs f0).length d') := CY.out.cell 2
              have VP0 : w8.cell? ⟨w2.heap.size, 0, none⟩ = some (.bool q3.s) := VP.out.cell 0
              have VP1 : w8.cell? ⟨w2.heap.size, 1, none⟩ = some (.slice Ap (limbs q3.n).length cp) := VP.out.cell 1
              have VP2 : w8.cell? ⟨w2.heap.size, 2, none⟩ = some (.slice Ar (limbs q3.d).length cr) := VP.out.cell 2
              have VX0 : w8.cell? ⟨w3.heap.size, 0, none⟩ = some (.bool q4.s) := VX.out.cell 0
              have VX1 : w8.cell? ⟨w3.heap.size, 1, none⟩ = some (.slice Ax (limbs q4.n).length cx) := VX.out.cell 1
              have VX2 : w8.cell? ⟨w3.heap.size, 2, none⟩ = some (.slice Ay (limbs q4.d).length cy) := VX.out.cell 2
              go_wp2
              go_ret
              exact ⟨rfl, HW.out⟩

theorem law_rback (s s' : Bool) (A B A' B' : Option Addr) (c d c' d' : Nat) (x0 y0 x0' y0' : List Nat) (w : World) (h1 : RdL w A x0) (h2 : RdL w B y0) (h3 : RdL w A' x0') (h4 : RdL w B' y0') (k1 : x0.length ≤ c) (k2 : y0.length ≤ d) (k3 : x0'.length ≤ c') (k4 : y0'.length ≤ d') (m1 : Lim x0) (m2 : Lim y0) (m3 : Lim x0') (m4 : Lim y0') :
    Calls Try.prog 8 #[.agg #[.bool s, .slice A x0.length c, .slice B y0.length d], .agg #[.bool s', .slice A' x0'.length c', .slice B' y0'.length d']] w (RetT w) := by
  cases hr : (rightB s (few x0) (few y0) && rightB s' (few x0') (few y0'))
  · exact back_bad s s' A B A' B' c d c' d' x0 y0 x0' y0' (few x0) (few y0) (few x0') (few y0') w h1 h2 h3 h4 k1 k2 k3 k4 m1 m2 m3 m4 hr rfl rfl rfl rfl
  · rw [Bool.and_eq_true] at hr
    obtain ⟨q, hs, hx, hy, hn, hd, hq⟩ := rightB_num (few_lim m1) (few_lim m2) hr.1
    obtain ⟨s0, n, d0⟩ := q
    obtain rfl : s0 = s := hs
    obtain ⟨p, hs', hx', hy', hm, hf, hp⟩ := rightB_num (few_lim m3) (few_lim m4) hr.2
    obtain ⟨s1, m, f0⟩ := p
    obtain rfl : s1 = s' := hs'
    exact back_good s0 s1 A B A' B' c d c' d' x0 y0 x0' y0' n d0 m f0 w h1 h2 h3 h4 k1 k2 k3 k4 m1 m2 m3 m4 hn hd hq hm hf hp hx hy hx' hy'
end Go.Proofs.Ytmbbdjpnecjleaa
