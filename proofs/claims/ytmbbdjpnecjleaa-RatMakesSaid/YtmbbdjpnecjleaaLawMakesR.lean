/-
  The law RatMakes, walked: a number that may be.
  The law RatMakes, whole.
-/
import Derived.Test.YtmbbdjpnecjleaaLBase
import Derived.Test.YtmbbdjpnecjleaaLawMakesW
namespace Go.Proofs.Ytmbbdjpnecjleaa
section
open Go.RowKit

set_option maxRecDepth 100000 in
set_option maxHeartbeats 1000000 in
theorem makes_r_den (s s' : Bool) (A B A' B' : Option Addr) (c d c' d' : Nat) (x0 y0 x0' y0' : List Nat) (n d0 : Nat) (xs' ys' : List Nat) (neg : Bool) (w : World) (h1 : RdL w A x0) (h2 : RdL w B y0) (h3 : RdL w A' x0') (h4 : RdL w B' y0') (k1 : x0.length ≤ c) (k2 : y0.length ≤ d) (k3 : x0'.length ≤ c') (k4 : y0'.length ≤ d') (m1 : Lim x0) (m2 : Lim y0) (m3 : Lim x0') (m4 : Lim y0') (hn : n < Top) (hd : d0 < Top) (hq : QR ⟨s, n, d0⟩) (hrb : rightL xs' = false) (e1 : few x0 = (limbs n)) (e2 : few y0 = (limbs d0)) (e3 : few x0' = xs') (e4 : few y0' = ys') :
    Calls Try.prog 4 #[.agg #[.bool s, .slice A x0.length c, .slice B y0.length d], .agg #[.bool s', .slice A' x0'.length c', .slice B' y0'.length d'], .bool neg] w (RetT w) := by
  have HR := Lib.hid ((rightB_q (s := s) hn hd).2 hq)
  have HQ := Lib.hid (And.intro hn (And.intro hd hq)); clear hd hq
  have HX := Lib.hid hn; clear hn
  have HB := Lib.hid hrb; clear hrb
  have R1 := Lib.hid (show RdL w A (limbs n) by rw [← e1]; exact h1.take 18); clear h1
  have R2 := Lib.hid (show RdL w B (limbs d0) by rw [← e2]; exact h2.take 18); clear h2
  have R3 := Lib.hid (show RdL w A' xs' by rw [← e3]; exact h3.take 18); clear h3
  have R4 := Lib.hid (show RdL w B' ys' by rw [← e4]; exact h4.take 18); clear h4
  have L18 := Lib.hid (show (limbs n).length ≤ 18 ∧ (limbs d0).length ≤ 18 ∧ xs'.length ≤ 18 ∧ ys'.length ≤ 18 by rw [← e1, ← e2, ← e3, ← e4]; exact ⟨few_le _, few_le _, few_le _, few_le _⟩)
  have KC := Lib.hid (show (limbs n).length ≤ c ∧ (limbs d0).length ≤ d ∧ xs'.length ≤ c' ∧ ys'.length ≤ d' by rw [← e1, ← e2, ← e3, ← e4]; exact ⟨Nat.le_trans (few_short _) k1, Nat.le_trans (few_short _) k2, Nat.le_trans (few_short _) k3, Nat.le_trans (few_short _) k4⟩)
  have M := Lib.hid (show Lim (limbs n) ∧ Lim (limbs d0) ∧ Lim xs' ∧ Lim ys' by rw [← e1, ← e2, ← e3, ← e4]; exact ⟨few_lim m1, few_lim m2, few_lim m3, few_lim m4⟩); clear m1 m2 m3 m4
  have F := Lib.hid (And.intro (And.intro k1 (And.intro k2 (And.intro e1 e2))) (And.intro k3 (And.intro k4 (And.intro e3 e4)))); clear k1 k2 k3 k4 e1 e2 e3 e4
  obtain ⟨wa, hwa⟩ : ∃ wa, wa = (w.alloc (.cells #[.bool s, .slice A x0.length c, .slice B y0.length d] 25)).alloc (.cells #[.bool s', .slice A' x0'.length c', .slice B' y0'.length d'] 25) := ⟨_, rfl⟩
  have hbl : Below w.heap.size w wa := by rw [hwa]; exact bel_alloc (bel_alloc (bel_refl _) _) _
  have CX : Blk wa (w.heap.size) 25 #[.bool s, .slice A x0.length c, .slice B y0.length d] := by
    have hz := Blk.new (w) 25 #[.bool s, .slice A x0.length c, .slice B y0.length d]
    rw [hwa]
    exact (hz.alloc _)
  have CY : Blk wa (w.heap.size + 1) 25 #[.bool s', .slice A' x0'.length c', .slice B' y0'.length d'] := by
    have hz := Blk.new (w.alloc (.cells #[.bool s, .slice A x0.length c, .slice B y0.length d] 25)) 25 #[.bool s', .slice A' x0'.length c', .slice B' y0'.length d']
    rw [World.size_alloc] at hz
    rw [hwa]
    exact hz
  replace R1 := Lib.hid (R1.out.below hbl)
  replace R2 := Lib.hid (R2.out.below hbl)
  replace R3 := Lib.hid (R3.out.below hbl)
  replace R4 := Lib.hid (R4.out.below hbl)
  have HW := Lib.hid hbl; clear hbl
  replace CX := Lib.hid CX
  replace CY := Lib.hid CY
  go_enter Try.func4, Try.ntmps4
  go_wp2_with fail
  rw [← hwa]
  clear hwa
  refine wp_region_typed 4 (TOf [VIs (.agg #[.bool s, .slice A x0.length c, .slice B y0.length d]),
      VIs (.agg #[.bool s, .slice A (limbs n).length c, .slice B (limbs d0).length d]),
      VIs (.agg #[.bool s', .slice A' x0'.length c', .slice B' y0'.length d']),
      VIs (.agg #[.bool s', .slice A' xs'.length c', .slice B' ys'.length d'])]) (by kernel_rfl) (by kernel_rfl) (by kernel_rfl) (LiftAll.at_ (.cons (VIs.lift _) (.cons (VIs.lift _) (.cons (VIs.lift _) (.cons (VIs.lift _) .nil))))) (steps_all (steps_cons ?_ (steps_cons ?_ (steps_cons ?_ (steps_cons ?_ steps_zero))))) ?fin
  · intro a0 w9 K9 hF hB hK hC
    have b3 := hF.base (k := 3) (v := .pointer (some ⟨w.heap.size, 0, none⟩)) (by kernel_rfl) rfl
    have x90 : w9.cell? ⟨w.heap.size, 0, none⟩ = some (.bool s) := (CX.out.below hB CX.out.lt).cell 0
    have x91 : w9.cell? ⟨w.heap.size, 1, none⟩ = some (.slice A x0.length c) := (CX.out.below hB CX.out.lt).cell 1
    have x92 : w9.cell? ⟨w.heap.size, 2, none⟩ = some (.slice B y0.length d) := (CX.out.below hB CX.out.lt).cell 2
    clear hF hB hK
    go_simp
    exact hC _ _ (bel_refl _) fun _ _ => rfl
  · intro a0 w9 K9 hF hB hK hC
    obtain ⟨v11, e11, z11⟩ := dep hK 0 (g := .data) (j := 0) (k := 11) rfl rfl rfl
    have z11 : v11 = .agg #[.bool s, .slice A x0.length c, .slice B y0.length d] := z11
    subst z11
    have HB9 := Lib.hid hB
    clear hF hB hK
    go_simp
    refine (fewQ_is s A B c d x0 y0 (limbs n) (limbs d0) _ F.out.1.1 F.out.1.2.1 F.out.1.2.2.1 F.out.1.2.2.2).mono ?_
    rintro e w7 ⟨rfl, hbl⟩
    exact hC _ _ hbl fun _ _ => rfl
  · intro a0 w9 K9 hF hB hK hC
    have b4 := hF.base (k := 4) (v := .pointer (some ⟨w.heap.size + 1, 0, none⟩)) (by kernel_rfl) rfl
    have x90 : w9.cell? ⟨w.heap.size + 1, 0, none⟩ = some (.bool s') := (CY.out.below hB CY.out.lt).cell 0
    have x91 : w9.cell? ⟨w.heap.size + 1, 1, none⟩ = some (.slice A' x0'.length c') := (CY.out.below hB CY.out.lt).cell 1
    have x92 : w9.cell? ⟨w.heap.size + 1, 2, none⟩ = some (.slice B' y0'.length d') := (CY.out.below hB CY.out.lt).cell 2
    clear hF hB hK
    go_simp
    exact hC _ _ (bel_refl _) fun _ _ => rfl
  · intro a0 w9 K9 hF hB hK hC
    obtain ⟨v13, e13, z13⟩ := dep hK 0 (g := .data) (j := 2) (k := 13) rfl rfl rfl
    have z13 : v13 = .agg #[.bool s', .slice A' x0'.length c', .slice B' y0'.length d'] := z13
    subst z13
    have HB9 := Lib.hid hB
    clear hF hB hK
    go_simp
    refine (fewQ_is s' A' B' c' d' x0' y0' xs' ys' _ F.out.2.1 F.out.2.2.1 F.out.2.2.2.1 F.out.2.2.2.2).mono ?_
    rintro e w7 ⟨rfl, hbl⟩
    exact hC _ _ hbl fun _ _ => rfl
  case fin =>
    intro a0 w9 hF hB hK
    have b3 := hF.base (k := 3) (v := .pointer (some ⟨w.heap.size, 0, none⟩)) (by kernel_rfl) rfl
    have b4 := hF.base (k := 4) (v := .pointer (some ⟨w.heap.size + 1, 0, none⟩)) (by kernel_rfl) rfl
    have b2 := hF.base (k := 2) (v := .bool neg) (by kernel_rfl) rfl
    have hsz := hF.size
    have hdf := hF.defers
    clear hF
    obtain ⟨v12, e12, z12⟩ := known hK 1 (k := 12) (by decide) rfl
    have z12 : v12 = .agg #[.bool s, .slice A (limbs n).length c, .slice B (limbs d0).length d] := z12
    subst z12
    obtain ⟨v14, e14, z14⟩ := known hK 3 (k := 14) (by decide) rfl
    have z14 : v14 = .agg #[.bool s', .slice A' xs'.length c', .slice B' ys'.length d'] := z14
    subst z14
    clear hK
    obtain ⟨⟨l0⟩, df⟩ := a0
    have hs0 : l0.length = 119 := hsz
    clear hsz
    replace hdf : df = _ := hdf
    subst hdf
    obtain ⟨u, rfl⟩ := lits_119 hs0
    clear hs0
    have q3 : u 3 = _ := Option.some.inj b3
    clear b3
    have q4 : u 4 = _ := Option.some.inj b4
    clear b4
    have q2 : u 2 = _ := Option.some.inj b2
    clear b2
    have q12 : u 12 = _ := Option.some.inj e12
    clear e12
    have q14 : u 14 = _ := Option.some.inj e14
    clear e14
    rw [q3, q4, q2, q12, q14]
    clear q3 q4 q2 q12 q14
    have hbl := hB; clear hB
    replace R1 := Lib.hid (R1.out.below hbl)
    replace R2 := Lib.hid (R2.out.below hbl)
    replace R3 := Lib.hid (R3.out.below hbl)
    replace R4 := Lib.hid (R4.out.below hbl)
    replace CX := Lib.hid (CX.out.below hbl CX.out.lt)
    replace CY := Lib.hid (CY.out.below hbl CY.out.lt)
    replace HW := Lib.hid (bel_trans HW.out hbl); clear hbl
    simp only [List.drop_succ_cons, List.drop_zero]
    have pd0 := CX.out.cell 0
    have pf0 := CX.out.frozen 0
    have pd1 := CX.out.cell 1
    have pf1 := CX.out.frozen 1
    have pd2 := CX.out.cell 2
    have pf2 := CX.out.frozen 2
    have qd0 := CY.out.cell 0
    have qf0 := CY.out.frozen 0
    have qd1 := CY.out.cell 1
    have qf1 := CY.out.frozen 1
    have qd2 := CY.out.cell 2
    have qf2 := CY.out.frozen 2
    go_upto_region 2 with fail
    clear pd0 pf0 pd1 pf1 pd2 pf2 qd0 qf0 qd1 qf1 qd2 qf2
    obtain ⟨wf, hwf⟩ : ∃ wf, wf = ((((((w9.setCell ⟨w.heap.size, 0, none⟩ (.bool s)).setCell ⟨w.heap.size, 1, none⟩ (.slice A (limbs n).length c)).setCell ⟨w.heap.size, 2, none⟩ (.slice B (limbs d0).length d)).setCell ⟨w.heap.size + 1, 0, none⟩ (.bool s')).setCell ⟨w.heap.size + 1, 1, none⟩ (.slice A' xs'.length c')).setCell ⟨w.heap.size + 1, 2, none⟩ (.slice B' ys'.length d')) := ⟨_, rfl⟩
    rw [← hwf]
    replace R1 := Lib.hid (show RdL wf _ _ by rw [hwf]; exact RdL.set3 ((((CY.out).far (p := ⟨w.heap.size, 0, none⟩) (by simp) _).far (p := ⟨w.heap.size, 1, none⟩) (by simp) _).far (p := ⟨w.heap.size, 2, none⟩) (by simp) _) (RdL.set3 (CX.out) (R1.out) _ _ _) _ _ _)
    replace R2 := Lib.hid (show RdL wf _ _ by rw [hwf]; exact RdL.set3 ((((CY.out).far (p := ⟨w.heap.size, 0, none⟩) (by simp) _).far (p := ⟨w.heap.size, 1, none⟩) (by simp) _).far (p := ⟨w.heap.size, 2, none⟩) (by simp) _) (RdL.set3 (CX.out) (R2.out) _ _ _) _ _ _)
    replace R3 := Lib.hid (show RdL wf _ _ by rw [hwf]; exact RdL.set3 ((((CY.out).far (p := ⟨w.heap.size, 0, none⟩) (by simp) _).far (p := ⟨w.heap.size, 1, none⟩) (by simp) _).far (p := ⟨w.heap.size, 2, none⟩) (by simp) _) (RdL.set3 (CX.out) (R3.out) _ _ _) _ _ _)
    replace R4 := Lib.hid (show RdL wf _ _ by rw [hwf]; exact RdL.set3 ((((CY.out).far (p := ⟨w.heap.size, 0, none⟩) (by simp) _).far (p := ⟨w.heap.size, 1, none⟩) (by simp) _).far (p := ⟨w.heap.size, 2, none⟩) (by simp) _) (RdL.set3 (CX.out) (R4.out) _ _ _) _ _ _)
    have CX_ := Lib.hid (show Blk wf (w.heap.size) 25 #[.bool s, .slice A (limbs n).length c, .slice B (limbs d0).length d] by rw [hwf]; exact ((((((CX.out).put 0 (.bool s)).put 1 (.slice A (limbs n).length c)).put 2 (.slice B (limbs d0).length d)).far (p := ⟨w.heap.size + 1, 0, none⟩) (by simp) _).far (p := ⟨w.heap.size + 1, 1, none⟩) (by simp) _).far (p := ⟨w.heap.size + 1, 2, none⟩) (by simp) _)
    have CY_ := Lib.hid (show Blk wf (w.heap.size + 1) 25 #[.bool s', .slice A' xs'.length c', .slice B' ys'.length d'] by rw [hwf]; exact ((((((CY.out).far (p := ⟨w.heap.size, 0, none⟩) (by simp) _).far (p := ⟨w.heap.size, 1, none⟩) (by simp) _).far (p := ⟨w.heap.size, 2, none⟩) (by simp) _).put 0 (.bool s')).put 1 (.slice A' xs'.length c')).put 2 (.slice B' ys'.length d'))
    replace CX := CX_; clear CX_
    replace CY := CY_; clear CY_
    replace HW := Lib.hid (show Below w.heap.size w wf by rw [hwf]; exact bel_set (p := ⟨w.heap.size + 1, 2, none⟩) (bel_set (p := ⟨w.heap.size + 1, 1, none⟩) (bel_set (p := ⟨w.heap.size + 1, 0, none⟩) (bel_set (p := ⟨w.heap.size, 2, none⟩) (bel_set (p := ⟨w.heap.size, 1, none⟩) (bel_set (p := ⟨w.heap.size, 0, none⟩) (HW.out) (by show w.heap.size ≤ w.heap.size; omega) _) (by show w.heap.size ≤ w.heap.size; omega) _) (by show w.heap.size ≤ w.heap.size; omega) _) (by show w.heap.size ≤ w.heap.size + 1; omega) _) (by show w.heap.size ≤ w.heap.size + 1; omega) _) (by show w.heap.size ≤ w.heap.size + 1; omega) _)
    clear hwf
    have CX0 : wf.cell? ⟨w.heap.size, 0, none⟩ = some (.bool s) := CX.out.cell 0
    have CX1 : wf.cell? ⟨w.heap.size, 1, none⟩ = some (.slice A (limbs n).length c) := CX.out.cell 1
    have CX2 : wf.cell? ⟨w.heap.size, 2, none⟩ = some (.slice B (limbs d0).length d) := CX.out.cell 2
    have CY0 : wf.cell? ⟨w.heap.size + 1, 0, none⟩ = some (.bool s') := CY.out.cell 0
    have CY1 : wf.cell? ⟨w.heap.size + 1, 1, none⟩ = some (.slice A' xs'.length c') := CY.out.cell 1
    have CY2 : wf.cell? ⟨w.heap.size + 1, 2, none⟩ = some (.slice B' ys'.length d') := CY.out.cell 2
    go_wp2_with fail
    refine (make_den neg A A' c c' (limbs n) xs' _ R1.out R3.out L18.out.1 L18.out.2.2.1 (rightL_limbs HX.out) HB.out).mono ?_
    rintro e w1 ⟨vx, vy, rfl, hnx, hny, hbl⟩
    replace R1 := Lib.hid (R1.out.below hbl)
    replace R2 := Lib.hid (R2.out.below hbl)
    replace R3 := Lib.hid (R3.out.below hbl)
    replace R4 := Lib.hid (R4.out.below hbl)
    replace CX := Lib.hid (CX.out.below hbl CX.out.lt)
    replace CY := Lib.hid (CY.out.below hbl CY.out.lt)
    replace HW := Lib.hid (bel_trans HW.out hbl); clear hbl
    clear CX0 CX1 CX2 CY0 CY1 CY2
    have CX0 : w1.cell? ⟨w.heap.size, 0, none⟩ = some (.bool s) := CX.out.cell 0
    have CX1 : w1.cell? ⟨w.heap.size, 1, none⟩ = some (.slice A (limbs n).length c) := CX.out.cell 1
    have CX2 : w1.cell? ⟨w.heap.size, 2, none⟩ = some (.slice B (limbs d0).length d) := CX.out.cell 2
    have CY0 : w1.cell? ⟨w.heap.size + 1, 0, none⟩ = some (.bool s') := CY.out.cell 0
    have CY1 : w1.cell? ⟨w.heap.size + 1, 1, none⟩ = some (.slice A' xs'.length c') := CY.out.cell 1
    have CY2 : w1.cell? ⟨w.heap.size + 1, 2, none⟩ = some (.slice B' ys'.length d') := CY.out.cell 2
    have HNx := Lib.hid hnx; clear hnx
    obtain ⟨Ax, cx, rfl, hcx, hrx⟩ := HNx.out.row
    have Rx := Lib.hid hrx; have HCx := Lib.hid hcx; clear hrx hcx
    have HNy := Lib.hid hny; clear hny
    obtain ⟨Ay, cy, rfl, hcy, hry⟩ := HNy.out.row
    have Ry := Lib.hid hry; have HCy := Lib.hid hcy; clear hry hcy
    rw [show noQ.s = false from rfl, show noQ.n = 0 from rfl, show noQ.d = 0 from rfl, limbs0]
    go_upto_region 3 with fail
    obtain ⟨wm, hwm⟩ : ∃ wm, wm = w1.alloc (.cells #[.bool false, .slice Ax 0 cx, .slice Ay 0 cy] 25) := ⟨_, rfl⟩
    rw [← hwm]
    have hbl : Below w1.heap.size w1 wm := by rw [hwm]; exact bel_alloc (bel_refl _) _
    have VX : Blk wm (w1.heap.size) 25 #[.bool false, .slice Ax 0 cx, .slice Ay 0 cy] := by
      have hz := Blk.new (w1) 25 #[.bool false, .slice Ax 0 cx, .slice Ay 0 cy]
      rw [hwm]
      exact hz
    clear hwm
    replace R1 := Lib.hid (R1.out.below hbl)
    replace R2 := Lib.hid (R2.out.below hbl)
    replace R3 := Lib.hid (R3.out.below hbl)
    replace R4 := Lib.hid (R4.out.below hbl)
    replace Rx := Lib.hid (Rx.out.below hbl)
    replace HNx := Lib.hid (HNx.out.below hbl)
    replace Ry := Lib.hid (Ry.out.below hbl)
    replace HNy := Lib.hid (HNy.out.below hbl)
    replace CX := Lib.hid (CX.out.below hbl CX.out.lt)
    replace CY := Lib.hid (CY.out.below hbl CY.out.lt)
    replace HW := Lib.hid (bel_trans HW.out hbl); clear hbl
    replace VX := Lib.hid VX
    clear CX0 CX1 CX2 CY0 CY1 CY2
    have CX0 : wm.cell? ⟨w.heap.size, 0, none⟩ = some (.bool s) := CX.out.cell 0
    have CX1 : wm.cell? ⟨w.heap.size, 1, none⟩ = some (.slice A (limbs n).length c) := CX.out.cell 1
    have CX2 : wm.cell? ⟨w.heap.size, 2, none⟩ = some (.slice B (limbs d0).length d) := CX.out.cell 2
    have CY0 : wm.cell? ⟨w.heap.size + 1, 0, none⟩ = some (.bool s') := CY.out.cell 0
    have CY1 : wm.cell? ⟨w.heap.size + 1, 1, none⟩ = some (.slice A' xs'.length c') := CY.out.cell 1
    have CY2 : wm.cell? ⟨w.heap.size + 1, 2, none⟩ = some (.slice B' ys'.length d') := CY.out.cell 2
    have VX0 : wm.cell? ⟨w1.heap.size, 0, none⟩ = some (.bool false) := VX.out.cell 0
    have VX1 : wm.cell? ⟨w1.heap.size, 1, none⟩ = some (.slice Ax 0 cx) := VX.out.cell 1
    have VX2 : wm.cell? ⟨w1.heap.size, 2, none⟩ = some (.slice Ay 0 cy) := VX.out.cell 2
    go_wp2_with fail
    refine (rtext_q ⟨s, n, d0⟩ A B c d _ R1.out R2.out KC.out.1 KC.out.2.1 HQ.out.1 HQ.out.2.1 HQ.out.2.2).mono ?_
    rintro e w2 ⟨rfl, hbl⟩
    replace R1 := Lib.hid (R1.out.below hbl)
    replace R2 := Lib.hid (R2.out.below hbl)
    replace R3 := Lib.hid (R3.out.below hbl)
    replace R4 := Lib.hid (R4.out.below hbl)
    replace Rx := Lib.hid (Rx.out.below hbl)
    replace HNx := Lib.hid (HNx.out.below hbl)
    replace Ry := Lib.hid (Ry.out.below hbl)
    replace HNy := Lib.hid (HNy.out.below hbl)
    replace CX := Lib.hid (CX.out.below hbl CX.out.lt)
    replace CY := Lib.hid (CY.out.below hbl CY.out.lt)
    replace VX := Lib.hid (VX.out.below hbl VX.out.lt)
    replace HW := Lib.hid (bel_trans HW.out hbl); clear hbl
    clear CX0 CX1 CX2 CY0 CY1 CY2 VX0 VX1 VX2
    have CX0 : w2.cell? ⟨w.heap.size, 0, none⟩ = some (.bool s) := CX.out.cell 0
    have CX1 : w2.cell? ⟨w.heap.size, 1, none⟩ = some (.slice A (limbs n).length c) := CX.out.cell 1
    have CX2 : w2.cell? ⟨w.heap.size, 2, none⟩ = some (.slice B (limbs d0).length d) := CX.out.cell 2
    have CY0 : w2.cell? ⟨w.heap.size + 1, 0, none⟩ = some (.bool s') := CY.out.cell 0
    have CY1 : w2.cell? ⟨w.heap.size + 1, 1, none⟩ = some (.slice A' xs'.length c') := CY.out.cell 1
    have CY2 : w2.cell? ⟨w.heap.size + 1, 2, none⟩ = some (.slice B' ys'.length d') := CY.out.cell 2
    have VX0 : w2.cell? ⟨w1.heap.size, 0, none⟩ = some (.bool false) := VX.out.cell 0
    have VX1 : w2.cell? ⟨w1.heap.size, 1, none⟩ = some (.slice Ax 0 cx) := VX.out.cell 1
    have VX2 : w2.cell? ⟨w1.heap.size, 2, none⟩ = some (.slice Ay 0 cy) := VX.out.cell 2
    go_wp2_with fail
    refine wp_region_typedG 24 (TOf [VIs (.agg #[.bool s, .slice A (limbs n).length c, .slice B (limbs d0).length d]),
        VIs (.bool true),
        VIs (.agg #[.bool s, .slice A (limbs n).length c, .slice B (limbs d0).length d]),
        VIs (.bool true),
        VIs (.bool false),
        VIs (.bool false),
        VIs (.agg #[.bool s, .slice A (limbs n).length c, .slice B (limbs d0).length d]),
        VIs (.agg #[.bool s', .slice A' xs'.length c', .slice B' ys'.length d']),
        VIs (.bool (likeB s s' (limbs n) (limbs d0) xs' ys')),
        VIs (.agg #[.bool s, .slice A (limbs n).length c, .slice B (limbs d0).length d]),
        VIs (.agg #[.bool s', .slice A' xs'.length c', .slice B' ys'.length d']),
        VIs (.bool (likeB s s' (limbs n) (limbs d0) xs' ys')),
        VIs (.bool false),
        VIs (.bool false),
        VIs (.bool false),
        VIs (.agg #[.bool s, .slice A (limbs n).length c, .slice B (limbs d0).length d]),
        VIs (.agg #[.bool s, .slice A (limbs n).length c, .slice B (limbs d0).length d]),
        VIs (.bool true),
        VIs (.bool false),
        VIs (.bool false),
        VIs (.bool false),
        VIs (.bool true),
        VIs (.bool false),
        VIs (.bool false)]) (by kernel_rfl) (by kernel_rfl) (by kernel_rfl) (LiftAll.at_ (.cons (VIs.lift _) (.cons (VIs.lift _) (.cons (VIs.lift _) (.cons (VIs.lift _) (.cons (VIs.lift _) (.cons (VIs.lift _) (.cons (VIs.lift _) (.cons (VIs.lift _) (.cons (VIs.lift _) (.cons (VIs.lift _) (.cons (VIs.lift _) (.cons (VIs.lift _) (.cons (VIs.lift _) (.cons (VIs.lift _) (.cons (VIs.lift _) (.cons (VIs.lift _) (.cons (VIs.lift _) (.cons (VIs.lift _) (.cons (VIs.lift _) (.cons (VIs.lift _) (.cons (VIs.lift _) (.cons (VIs.lift _) (.cons (VIs.lift _) (.cons (VIs.lift _) .nil))))))))))))))))))))))))) (stepsG_all (stepsG_cons ?_ (stepsG_cons ?_ (stepsG_cons ?_ (stepsG_cons ?_ (stepsG_cons ?_ (stepsG_cons ?_ (stepsG_cons ?_ (stepsG_cons ?_ (stepsG_cons ?_ (stepsG_cons ?_ (stepsG_cons ?_ (stepsG_cons ?_ (stepsG_cons ?_ (stepsG_cons ?_ (stepsG_cons ?_ (stepsG_cons ?_ (stepsG_cons ?_ (stepsG_cons ?_ (stepsG_cons ?_ (stepsG_cons ?_ (stepsG_cons ?_ (stepsG_cons ?_ (stepsG_cons ?_ (stepsG_cons ?_ stepsG_zero))))))))))))))))))))))))) ?fin
    · refine stepG_plain rfl ?_
      intro a0 w9 K9 hF hB hK hC
      have b3 := hF.base (k := 3) (v := .pointer (some ⟨w.heap.size, 0, none⟩)) (by kernel_rfl) rfl
      have x90 : w9.cell? ⟨w.heap.size, 0, none⟩ = some (.bool s) := (CX.out.below hB CX.out.lt).cell 0
      have x91 : w9.cell? ⟨w.heap.size, 1, none⟩ = some (.slice A (limbs n).length c) := (CX.out.below hB CX.out.lt).cell 1
      have x92 : w9.cell? ⟨w.heap.size, 2, none⟩ = some (.slice B (limbs d0).length d) := (CX.out.below hB CX.out.lt).cell 2
      clear hF hB hK
      go_simp
      exact hC _ _ (bel_refl _) fun _ _ => rfl
    · refine stepG_plain rfl ?_
      intro a0 w9 K9 hF hB hK hC
      obtain ⟨v29, e29, z29⟩ := dep hK 0 (g := .data) (j := 0) (k := 29) rfl rfl rfl
      have z29 : v29 = .agg #[.bool s, .slice A (limbs n).length c, .slice B (limbs d0).length d] := z29
      subst z29
      have HB9 := Lib.hid hB
      clear hF hB hK
      go_simp
      refine (ratRight_is s A B c d (limbs n) (limbs d0) _ (R1.out.below HB9.out) (R2.out.below HB9.out) M.out.1 M.out.2.1 L18.out.1 L18.out.2.1 KC.out.1 KC.out.2.1 HR.out).mono ?_
      rintro e w7 ⟨rfl, hbl⟩
      exact hC _ _ hbl fun _ _ => rfl
    · refine stepG_plain rfl ?_
      intro a0 w9 K9 hF hB hK hC
      have b3 := hF.base (k := 3) (v := .pointer (some ⟨w.heap.size, 0, none⟩)) (by kernel_rfl) rfl
      have x90 : w9.cell? ⟨w.heap.size, 0, none⟩ = some (.bool s) := (CX.out.below hB CX.out.lt).cell 0
      have x91 : w9.cell? ⟨w.heap.size, 1, none⟩ = some (.slice A (limbs n).length c) := (CX.out.below hB CX.out.lt).cell 1
      have x92 : w9.cell? ⟨w.heap.size, 2, none⟩ = some (.slice B (limbs d0).length d) := (CX.out.below hB CX.out.lt).cell 2
      clear hF hB hK
      go_simp
      exact hC _ _ (bel_refl _) fun _ _ => rfl
    · refine stepG_plain rfl ?_
      intro a0 w9 K9 hF hB hK hC
      obtain ⟨v31, e31, z31⟩ := dep hK 0 (g := .data) (j := 2) (k := 31) rfl rfl rfl
      have z31 : v31 = .agg #[.bool s, .slice A (limbs n).length c, .slice B (limbs d0).length d] := z31
      subst z31
      have HB9 := Lib.hid hB
      clear hF hB hK
      go_simp
      refine (refRatRight_is s A B c d (limbs n) (limbs d0) _ (R1.out.below HB9.out) (R2.out.below HB9.out) M.out.1 M.out.2.1 L18.out.1 L18.out.2.1 HR.out).mono ?_
      rintro e w7 ⟨rfl, hbl⟩
      exact hC _ _ hbl fun _ _ => rfl
    · refine stepG_plain rfl ?_
      intro a0 w9 K9 hF hB hK hC
      obtain ⟨v30, e30, z30⟩ := dep hK 0 (g := .data) (j := 1) (k := 30) rfl rfl rfl
      have z30 : v30 = .bool true := z30
      subst z30
      obtain ⟨v32, e32, z32⟩ := dep hK 1 (g := .data) (j := 3) (k := 32) rfl rfl rfl
      have z32 : v32 = .bool true := z32
      subst z32
      have HB9 := Lib.hid hB
      clear hF hB hK
      go_simp
      exact hC _ _ (bel_refl _) fun _ _ => rfl
    · refine stepG_plain rfl ?_
      intro a0 w9 K9 hF hB hK hC
      obtain ⟨v33, e33, z33⟩ := dep hK 0 (g := .data) (j := 4) (k := 33) rfl rfl rfl
      have z33 : v33 = .bool false := z33
      subst z33
      clear hF hB hK
      go_simp
      exact hC _ _ (bel_refl _) fun _ _ => rfl
    · intro a0 w9 K9 hF hB hK hC
      obtain ⟨vg, eg, zg⟩ := dep hK 0 (g := .guard) (j := 5) (k := 34) rfl rfl rfl
      have zg : vg = .bool false := zg
      subst zg
      refine guard_in (j := 5) (k := 34) (want := false) rfl rfl eg rfl ?_
      have b3 := hF.base (k := 3) (v := .pointer (some ⟨w.heap.size, 0, none⟩)) (by kernel_rfl) rfl
      have x90 : w9.cell? ⟨w.heap.size, 0, none⟩ = some (.bool s) := (CX.out.below hB CX.out.lt).cell 0
      have x91 : w9.cell? ⟨w.heap.size, 1, none⟩ = some (.slice A (limbs n).length c) := (CX.out.below hB CX.out.lt).cell 1
      have x92 : w9.cell? ⟨w.heap.size, 2, none⟩ = some (.slice B (limbs d0).length d) := (CX.out.below hB CX.out.lt).cell 2
      clear hF hB hK
      go_simp
      exact hC _ _ (bel_refl _) fun _ _ => rfl
    · intro a0 w9 K9 hF hB hK hC
      obtain ⟨vg, eg, zg⟩ := dep hK 0 (g := .guard) (j := 5) (k := 34) rfl rfl rfl
      have zg : vg = .bool false := zg
      subst zg
      refine guard_in (j := 5) (k := 34) (want := false) rfl rfl eg rfl ?_
      have b4 := hF.base (k := 4) (v := .pointer (some ⟨w.heap.size + 1, 0, none⟩)) (by kernel_rfl) rfl
      have x90 : w9.cell? ⟨w.heap.size + 1, 0, none⟩ = some (.bool s') := (CY.out.below hB CY.out.lt).cell 0
      have x91 : w9.cell? ⟨w.heap.size + 1, 1, none⟩ = some (.slice A' xs'.length c') := (CY.out.below hB CY.out.lt).cell 1
      have x92 : w9.cell? ⟨w.heap.size + 1, 2, none⟩ = some (.slice B' ys'.length d') := (CY.out.below hB CY.out.lt).cell 2
      clear hF hB hK
      go_simp
      exact hC _ _ (bel_refl _) fun _ _ => rfl
    · intro a0 w9 K9 hF hB hK hC
      obtain ⟨vg, eg, zg⟩ := dep hK 3 (g := .guard) (j := 5) (k := 34) rfl rfl rfl
      have zg : vg = .bool false := zg
      subst zg
      refine guard_in (j := 5) (k := 34) (want := false) rfl rfl eg rfl ?_
      obtain ⟨v35, e35, z35⟩ := dep hK 0 (g := .data) (j := 6) (k := 35) rfl rfl rfl
      have z35 : v35 = .agg #[.bool s, .slice A (limbs n).length c, .slice B (limbs d0).length d] := z35
      subst z35
      obtain ⟨v36, e36, z36⟩ := dep hK 1 (g := .data) (j := 7) (k := 36) rfl rfl rfl
      have z36 : v36 = .agg #[.bool s', .slice A' xs'.length c', .slice B' ys'.length d'] := z36
      subst z36
      have HB9 := Lib.hid hB
      clear hF hB hK
      go_simp
      refine (like_ok s s' A B A' B' c d c' d' (limbs n) (limbs d0) xs' ys' _ (R1.out.below HB9.out) (R3.out.below HB9.out) L18.out.1 (R2.out.below HB9.out) (R4.out.below HB9.out) L18.out.2.1 rfl).mono ?_
      rintro e w7 ⟨rfl, hbl⟩
      exact hC _ _ hbl fun _ _ => rfl
    · intro a0 w9 K9 hF hB hK hC
      obtain ⟨vg, eg, zg⟩ := dep hK 0 (g := .guard) (j := 5) (k := 34) rfl rfl rfl
      have zg : vg = .bool false := zg
      subst zg
      refine guard_in (j := 5) (k := 34) (want := false) rfl rfl eg rfl ?_
      have b3 := hF.base (k := 3) (v := .pointer (some ⟨w.heap.size, 0, none⟩)) (by kernel_rfl) rfl
      have x90 : w9.cell? ⟨w.heap.size, 0, none⟩ = some (.bool s) := (CX.out.below hB CX.out.lt).cell 0
      have x91 : w9.cell? ⟨w.heap.size, 1, none⟩ = some (.slice A (limbs n).length c) := (CX.out.below hB CX.out.lt).cell 1
      have x92 : w9.cell? ⟨w.heap.size, 2, none⟩ = some (.slice B (limbs d0).length d) := (CX.out.below hB CX.out.lt).cell 2
      clear hF hB hK
      go_simp
      exact hC _ _ (bel_refl _) fun _ _ => rfl
    · intro a0 w9 K9 hF hB hK hC
      obtain ⟨vg, eg, zg⟩ := dep hK 0 (g := .guard) (j := 5) (k := 34) rfl rfl rfl
      have zg : vg = .bool false := zg
      subst zg
      refine guard_in (j := 5) (k := 34) (want := false) rfl rfl eg rfl ?_
      have b4 := hF.base (k := 4) (v := .pointer (some ⟨w.heap.size + 1, 0, none⟩)) (by kernel_rfl) rfl
      have x90 : w9.cell? ⟨w.heap.size + 1, 0, none⟩ = some (.bool s') := (CY.out.below hB CY.out.lt).cell 0
      have x91 : w9.cell? ⟨w.heap.size + 1, 1, none⟩ = some (.slice A' xs'.length c') := (CY.out.below hB CY.out.lt).cell 1
      have x92 : w9.cell? ⟨w.heap.size + 1, 2, none⟩ = some (.slice B' ys'.length d') := (CY.out.below hB CY.out.lt).cell 2
      clear hF hB hK
      go_simp
      exact hC _ _ (bel_refl _) fun _ _ => rfl
    · intro a0 w9 K9 hF hB hK hC
      obtain ⟨vg, eg, zg⟩ := dep hK 3 (g := .guard) (j := 5) (k := 34) rfl rfl rfl
      have zg : vg = .bool false := zg
      subst zg
      refine guard_in (j := 5) (k := 34) (want := false) rfl rfl eg rfl ?_
      obtain ⟨v38, e38, z38⟩ := dep hK 0 (g := .data) (j := 9) (k := 38) rfl rfl rfl
      have z38 : v38 = .agg #[.bool s, .slice A (limbs n).length c, .slice B (limbs d0).length d] := z38
      subst z38
      obtain ⟨v39, e39, z39⟩ := dep hK 1 (g := .data) (j := 10) (k := 39) rfl rfl rfl
      have z39 : v39 = .agg #[.bool s', .slice A' xs'.length c', .slice B' ys'.length d'] := z39
      subst z39
      have HB9 := Lib.hid hB
      clear hF hB hK
      go_simp
      refine (refSame_ok s s' A B A' B' c d c' d' (limbs n) (limbs d0) xs' ys' _ (R1.out.below HB9.out) (R3.out.below HB9.out) L18.out.1 (R2.out.below HB9.out) (R4.out.below HB9.out) L18.out.2.1 rfl).mono ?_
      rintro e w7 ⟨rfl, hbl⟩
      exact hC _ _ hbl fun _ _ => rfl
    · intro a0 w9 K9 hF hB hK hC
      obtain ⟨vg, eg, zg⟩ := dep hK 2 (g := .guard) (j := 5) (k := 34) rfl rfl rfl
      have zg : vg = .bool false := zg
      subst zg
      refine guard_in (j := 5) (k := 34) (want := false) rfl rfl eg rfl ?_
      obtain ⟨v37, e37, z37⟩ := dep hK 0 (g := .data) (j := 8) (k := 37) rfl rfl rfl
      have z37 : v37 = .bool (likeB s s' (limbs n) (limbs d0) xs' ys') := z37
      subst z37
      obtain ⟨v40, e40, z40⟩ := dep hK 1 (g := .data) (j := 11) (k := 40) rfl rfl rfl
      have z40 : v40 = .bool (likeB s s' (limbs n) (limbs d0) xs' ys') := z40
      subst z40
      have HB9 := Lib.hid hB
      clear hF hB hK
      go_simp
      exact hC _ _ (bel_refl _) fun _ _ => rfl
    · refine stepG_plain rfl ?_
      intro a0 w9 K9 hF hB hK hC
      obtain ⟨v34, e34, z34⟩ := dep hK 0 (g := .data) (j := 5) (k := 34) rfl rfl rfl
      have z34 : v34 = .bool false := z34
      subst z34
      obtain ⟨v41, e41, z41⟩ := dep hK 1 (g := .data) (j := 12) (k := 41) rfl rfl rfl
      have z41 : v41 = .bool false := z41
      subst z41
      have HB9 := Lib.hid hB
      clear hF hB hK
      go_simp
      exact hC _ _ (bel_refl _) fun _ _ => rfl
    · refine stepG_plain rfl ?_
      intro a0 w9 K9 hF hB hK hC
      obtain ⟨v42, e42, z42⟩ := dep hK 0 (g := .data) (j := 13) (k := 42) rfl rfl rfl
      have z42 : v42 = .bool false := z42
      subst z42
      clear hF hB hK
      go_simp
      exact hC _ _ (bel_refl _) fun _ _ => rfl
    · intro a0 w9 K9 hF hB hK hC
      obtain ⟨vg, eg, zg⟩ := dep hK 0 (g := .guard) (j := 14) (k := 43) rfl rfl rfl
      have zg : vg = .bool false := zg
      subst zg
      refine guard_in (j := 14) (k := 43) (want := false) rfl rfl eg rfl ?_
      have b3 := hF.base (k := 3) (v := .pointer (some ⟨w.heap.size, 0, none⟩)) (by kernel_rfl) rfl
      have x90 : w9.cell? ⟨w.heap.size, 0, none⟩ = some (.bool s) := (CX.out.below hB CX.out.lt).cell 0
      have x91 : w9.cell? ⟨w.heap.size, 1, none⟩ = some (.slice A (limbs n).length c) := (CX.out.below hB CX.out.lt).cell 1
      have x92 : w9.cell? ⟨w.heap.size, 2, none⟩ = some (.slice B (limbs d0).length d) := (CX.out.below hB CX.out.lt).cell 2
      clear hF hB hK
      go_simp
      exact hC _ _ (bel_refl _) fun _ _ => rfl
    · intro a0 w9 K9 hF hB hK hC
      obtain ⟨vg, eg, zg⟩ := dep hK 0 (g := .guard) (j := 14) (k := 43) rfl rfl rfl
      have zg : vg = .bool false := zg
      subst zg
      refine guard_in (j := 14) (k := 43) (want := false) rfl rfl eg rfl ?_
      have b3 := hF.base (k := 3) (v := .pointer (some ⟨w.heap.size, 0, none⟩)) (by kernel_rfl) rfl
      have x90 : w9.cell? ⟨w.heap.size, 0, none⟩ = some (.bool s) := (CX.out.below hB CX.out.lt).cell 0
      have x91 : w9.cell? ⟨w.heap.size, 1, none⟩ = some (.slice A (limbs n).length c) := (CX.out.below hB CX.out.lt).cell 1
      have x92 : w9.cell? ⟨w.heap.size, 2, none⟩ = some (.slice B (limbs d0).length d) := (CX.out.below hB CX.out.lt).cell 2
      clear hF hB hK
      go_simp
      exact hC _ _ (bel_refl _) fun _ _ => rfl
    · intro a0 w9 K9 hF hB hK hC
      obtain ⟨vg, eg, zg⟩ := dep hK 3 (g := .guard) (j := 14) (k := 43) rfl rfl rfl
      have zg : vg = .bool false := zg
      subst zg
      refine guard_in (j := 14) (k := 43) (want := false) rfl rfl eg rfl ?_
      obtain ⟨v44, e44, z44⟩ := dep hK 0 (g := .data) (j := 15) (k := 44) rfl rfl rfl
      have z44 : v44 = .agg #[.bool s, .slice A (limbs n).length c, .slice B (limbs d0).length d] := z44
      subst z44
      obtain ⟨v45, e45, z45⟩ := dep hK 1 (g := .data) (j := 16) (k := 45) rfl rfl rfl
      have z45 : v45 = .agg #[.bool s, .slice A (limbs n).length c, .slice B (limbs d0).length d] := z45
      subst z45
      have HB9 := Lib.hid hB
      clear hF hB hK
      go_simp
      refine (like_ok s s A B A B c d c d (limbs n) (limbs d0) (limbs n) (limbs d0) _ (R1.out.below HB9.out) (R1.out.below HB9.out) L18.out.1 (R2.out.below HB9.out) (R2.out.below HB9.out) L18.out.2.1 (like_self _ _ _)).mono ?_
      rintro e w7 ⟨rfl, hbl⟩
      exact hC _ _ hbl fun _ _ => rfl
    · intro a0 w9 K9 hF hB hK hC
      obtain ⟨vg, eg, zg⟩ := dep hK 1 (g := .guard) (j := 14) (k := 43) rfl rfl rfl
      have zg : vg = .bool false := zg
      subst zg
      refine guard_in (j := 14) (k := 43) (want := false) rfl rfl eg rfl ?_
      obtain ⟨v46, e46, z46⟩ := dep hK 0 (g := .data) (j := 17) (k := 46) rfl rfl rfl
      have z46 : v46 = .bool true := z46
      subst z46
      have HB9 := Lib.hid hB
      clear hF hB hK
      go_simp
      exact hC _ _ (bel_refl _) fun _ _ => rfl
    · refine stepG_plain rfl ?_
      intro a0 w9 K9 hF hB hK hC
      obtain ⟨v43, e43, z43⟩ := dep hK 0 (g := .data) (j := 14) (k := 43) rfl rfl rfl
      have z43 : v43 = .bool false := z43
      subst z43
      obtain ⟨v47, e47, z47⟩ := dep hK 1 (g := .data) (j := 18) (k := 47) rfl rfl rfl
      have z47 : v47 = .bool false := z47
      subst z47
      have HB9 := Lib.hid hB
      clear hF hB hK
      go_simp
      exact hC _ _ (bel_refl _) fun _ _ => rfl
    · refine stepG_plain rfl ?_
      intro a0 w9 K9 hF hB hK hC
      obtain ⟨v48, e48, z48⟩ := dep hK 0 (g := .data) (j := 19) (k := 48) rfl rfl rfl
      have z48 : v48 = .bool false := z48
      subst z48
      clear hF hB hK
      go_simp
      exact hC _ _ (bel_refl _) fun _ _ => rfl
    · intro a0 w9 K9 hF hB hK hC
      obtain ⟨vg, eg, zg⟩ := dep hK 1 (g := .guard) (j := 20) (k := 49) rfl rfl rfl
      have zg : vg = .bool false := zg
      subst zg
      refine guard_in (j := 20) (k := 49) (want := false) rfl rfl eg rfl ?_
      have HB9 := Lib.hid hB
      clear hF hB hK
      go_simp
      refine (aliveQ _).mono ?_
      rintro e w7 ⟨rfl, hbl⟩
      exact hC _ _ hbl fun _ _ => rfl
    · intro a0 w9 K9 hF hB hK hC
      obtain ⟨vg, eg, zg⟩ := dep hK 1 (g := .guard) (j := 20) (k := 49) rfl rfl rfl
      have zg : vg = .bool false := zg
      subst zg
      refine guard_in (j := 20) (k := 49) (want := false) rfl rfl eg rfl ?_
      obtain ⟨v50, e50, z50⟩ := dep hK 0 (g := .data) (j := 21) (k := 50) rfl rfl rfl
      have z50 : v50 = .bool true := z50
      subst z50
      have HB9 := Lib.hid hB
      clear hF hB hK
      go_simp
      exact hC _ _ (bel_refl _) fun _ _ => rfl
    · refine stepG_plain rfl ?_
      intro a0 w9 K9 hF hB hK hC
      obtain ⟨v49, e49, z49⟩ := dep hK 0 (g := .data) (j := 20) (k := 49) rfl rfl rfl
      have z49 : v49 = .bool false := z49
      subst z49
      obtain ⟨v51, e51, z51⟩ := dep hK 1 (g := .data) (j := 22) (k := 51) rfl rfl rfl
      have z51 : v51 = .bool false := z51
      subst z51
      have HB9 := Lib.hid hB
      clear hF hB hK
      go_simp
      exact hC _ _ (bel_refl _) fun _ _ => rfl
    case fin =>
      intro a0 w9 hF hB hK
      have b2 := hF.base (k := 2) (v := .bool neg) (by kernel_rfl) rfl
      have b3 := hF.base (k := 3) (v := .pointer (some ⟨w.heap.size, 0, none⟩)) (by kernel_rfl) rfl
      have b4 := hF.base (k := 4) (v := .pointer (some ⟨w.heap.size + 1, 0, none⟩)) (by kernel_rfl) rfl
      have b7 := hF.base (k := 7) (v := .pointer (some ⟨w1.heap.size, 0, none⟩)) (by kernel_rfl) rfl
      have b8 := hF.base (k := 8) (v := .int .i64 1) (by kernel_rfl) rfl
      have b9 := hF.base (k := 9) (v := .string (qText s n d0)) (by kernel_rfl) rfl
      have b10 := hF.base (k := 10) (v := .int .i64 0) (by kernel_rfl) rfl
      have hsz := hF.size
      have hdf := hF.defers
      clear hF
      obtain ⟨v52, e52, z52⟩ := known hK 23 (k := 52) (by decide) rfl
      have z52 : v52 = .bool false := z52
      subst z52
      clear hK
      obtain ⟨⟨l0⟩, df⟩ := a0
      have hs0 : l0.length = 119 := hsz
      clear hsz
      replace hdf : df = _ := hdf
      subst hdf
      obtain ⟨u, rfl⟩ := lits_119 hs0
      clear hs0
      have q2 : u 2 = _ := Option.some.inj b2
      clear b2
      have q3 : u 3 = _ := Option.some.inj b3
      clear b3
      have q4 : u 4 = _ := Option.some.inj b4
      clear b4
      have q7 : u 7 = _ := Option.some.inj b7
      clear b7
      have q8 : u 8 = _ := Option.some.inj b8
      clear b8
      have q9 : u 9 = _ := Option.some.inj b9
      clear b9
      have q10 : u 10 = _ := Option.some.inj b10
      clear b10
      have q52 : u 52 = _ := Option.some.inj e52
      clear e52
      rw [q2, q3, q4, q7, q8, q9, q10, q52]
      clear q2 q3 q4 q7 q8 q9 q10 q52
      have hbl := hB; clear hB
      replace R1 := Lib.hid (R1.out.below hbl)
      replace R2 := Lib.hid (R2.out.below hbl)
      replace R3 := Lib.hid (R3.out.below hbl)
      replace R4 := Lib.hid (R4.out.below hbl)
      replace Rx := Lib.hid (Rx.out.below hbl)
      replace HNx := Lib.hid (HNx.out.below hbl)
      replace Ry := Lib.hid (Ry.out.below hbl)
      replace HNy := Lib.hid (HNy.out.below hbl)
      replace CX := Lib.hid (CX.out.below hbl CX.out.lt)
      replace CY := Lib.hid (CY.out.below hbl CY.out.lt)
      replace VX := Lib.hid (VX.out.below hbl VX.out.lt)
      replace HW := Lib.hid (bel_trans HW.out hbl); clear hbl
      clear CX0 CX1 CX2 CY0 CY1 CY2 VX0 VX1 VX2
      have CX0 : w9.cell? ⟨w.heap.size, 0, none⟩ = some (.bool s) := CX.out.cell 0
      have CX1 : w9.cell? ⟨w.heap.size, 1, none⟩ = some (.slice A (limbs n).length c) := CX.out.cell 1
      have CX2 : w9.cell? ⟨w.heap.size, 2, none⟩ = some (.slice B (limbs d0).length d) := CX.out.cell 2
      have CY0 : w9.cell? ⟨w.heap.size + 1, 0, none⟩ = some (.bool s') := CY.out.cell 0
      have CY1 : w9.cell? ⟨w.heap.size + 1, 1, none⟩ = some (.slice A' xs'.length c') := CY.out.cell 1
      have CY2 : w9.cell? ⟨w.heap.size + 1, 2, none⟩ = some (.slice B' ys'.length d') := CY.out.cell 2
      have VX0 : w9.cell? ⟨w1.heap.size, 0, none⟩ = some (.bool false) := VX.out.cell 0
      have VX1 : w9.cell? ⟨w1.heap.size, 1, none⟩ = some (.slice Ax 0 cx) := VX.out.cell 1
      have VX2 : w9.cell? ⟨w1.heap.size, 2, none⟩ = some (.slice Ay 0 cy) := VX.out.cell 2
      refine wpList_nil ?_
      go_wp2_with fail
      refine (refRatRight_is s A B c d (limbs n) (limbs d0) _ R1.out R2.out M.out.1 M.out.2.1 L18.out.1 L18.out.2.1 HR.out).mono ?_
      rintro e w3 ⟨rfl, hbl⟩
      replace R1 := Lib.hid (R1.out.below hbl)
      replace R2 := Lib.hid (R2.out.below hbl)
      replace R3 := Lib.hid (R3.out.below hbl)
      replace R4 := Lib.hid (R4.out.below hbl)
      replace Rx := Lib.hid (Rx.out.below hbl)
      replace HNx := Lib.hid (HNx.out.below hbl)
      replace Ry := Lib.hid (Ry.out.below hbl)
      replace HNy := Lib.hid (HNy.out.below hbl)
      replace CX := Lib.hid (CX.out.below hbl CX.out.lt)
      replace CY := Lib.hid (CY.out.below hbl CY.out.lt)
      replace VX := Lib.hid (VX.out.below hbl VX.out.lt)
      replace HW := Lib.hid (bel_trans HW.out hbl); clear hbl
      clear CX0 CX1 CX2 CY0 CY1 CY2 VX0 VX1 VX2
      have CX0 : w3.cell? ⟨w.heap.size, 0, none⟩ = some (.bool s) := CX.out.cell 0
      have CX1 : w3.cell? ⟨w.heap.size, 1, none⟩ = some (.slice A (limbs n).length c) := CX.out.cell 1
      have CX2 : w3.cell? ⟨w.heap.size, 2, none⟩ = some (.slice B (limbs d0).length d) := CX.out.cell 2
      have CY0 : w3.cell? ⟨w.heap.size + 1, 0, none⟩ = some (.bool s') := CY.out.cell 0
      have CY1 : w3.cell? ⟨w.heap.size + 1, 1, none⟩ = some (.slice A' xs'.length c') := CY.out.cell 1
      have CY2 : w3.cell? ⟨w.heap.size + 1, 2, none⟩ = some (.slice B' ys'.length d') := CY.out.cell 2
      have VX0 : w3.cell? ⟨w1.heap.size, 0, none⟩ = some (.bool false) := VX.out.cell 0
      have VX1 : w3.cell? ⟨w1.heap.size, 1, none⟩ = some (.slice Ax 0 cx) := VX.out.cell 1
      have VX2 : w3.cell? ⟨w1.heap.size, 2, none⟩ = some (.slice Ay 0 cy) := VX.out.cell 2
      go_wp2_with fail
      refine (refOf_any s A B c d n d0 _ R1.out R2.out HQ.out.1 HQ.out.2.1).mono ?_
      rintro e w4 ⟨rfl, hbl⟩
      replace R1 := Lib.hid (R1.out.below hbl)
      replace R2 := Lib.hid (R2.out.below hbl)
      replace R3 := Lib.hid (R3.out.below hbl)
      replace R4 := Lib.hid (R4.out.below hbl)
      replace Rx := Lib.hid (Rx.out.below hbl)
      replace HNx := Lib.hid (HNx.out.below hbl)
      replace Ry := Lib.hid (Ry.out.below hbl)
      replace HNy := Lib.hid (HNy.out.below hbl)
      replace CX := Lib.hid (CX.out.below hbl CX.out.lt)
      replace CY := Lib.hid (CY.out.below hbl CY.out.lt)
      replace VX := Lib.hid (VX.out.below hbl VX.out.lt)
      replace HW := Lib.hid (bel_trans HW.out hbl); clear hbl
      clear CX0 CX1 CX2 CY0 CY1 CY2 VX0 VX1 VX2
      have CX0 : w4.cell? ⟨w.heap.size, 0, none⟩ = some (.bool s) := CX.out.cell 0
      have CX1 : w4.cell? ⟨w.heap.size, 1, none⟩ = some (.slice A (limbs n).length c) := CX.out.cell 1
      have CX2 : w4.cell? ⟨w.heap.size, 2, none⟩ = some (.slice B (limbs d0).length d) := CX.out.cell 2
      have CY0 : w4.cell? ⟨w.heap.size + 1, 0, none⟩ = some (.bool s') := CY.out.cell 0
      have CY1 : w4.cell? ⟨w.heap.size + 1, 1, none⟩ = some (.slice A' xs'.length c') := CY.out.cell 1
      have CY2 : w4.cell? ⟨w.heap.size + 1, 2, none⟩ = some (.slice B' ys'.length d') := CY.out.cell 2
      have VX0 : w4.cell? ⟨w1.heap.size, 0, none⟩ = some (.bool false) := VX.out.cell 0
      have VX1 : w4.cell? ⟨w1.heap.size, 1, none⟩ = some (.slice Ax 0 cx) := VX.out.cell 1
      have VX2 : w4.cell? ⟨w1.heap.size, 2, none⟩ = some (.slice Ay 0 cy) := VX.out.cell 2
      go_wp2_with fail
      refine (reft_any s n d0 false _ (Nat.le_trans (dec_len HQ.out.1) (by decide)) (Nat.le_trans (dec_len HQ.out.2.1) (by decide))).mono ?_
      rintro e w5 ⟨rfl, hbl⟩
      replace R1 := Lib.hid (R1.out.below hbl)
      replace R2 := Lib.hid (R2.out.below hbl)
      replace R3 := Lib.hid (R3.out.below hbl)
      replace R4 := Lib.hid (R4.out.below hbl)
      replace Rx := Lib.hid (Rx.out.below hbl)
      replace HNx := Lib.hid (HNx.out.below hbl)
      replace Ry := Lib.hid (Ry.out.below hbl)
      replace HNy := Lib.hid (HNy.out.below hbl)
      replace CX := Lib.hid (CX.out.below hbl CX.out.lt)
      replace CY := Lib.hid (CY.out.below hbl CY.out.lt)
      replace VX := Lib.hid (VX.out.below hbl VX.out.lt)
      replace HW := Lib.hid (bel_trans HW.out hbl); clear hbl
      clear CX0 CX1 CX2 CY0 CY1 CY2 VX0 VX1 VX2
      have CX0 : w5.cell? ⟨w.heap.size, 0, none⟩ = some (.bool s) := CX.out.cell 0
      have CX1 : w5.cell? ⟨w.heap.size, 1, none⟩ = some (.slice A (limbs n).length c) := CX.out.cell 1
      have CX2 : w5.cell? ⟨w.heap.size, 2, none⟩ = some (.slice B (limbs d0).length d) := CX.out.cell 2
      have CY0 : w5.cell? ⟨w.heap.size + 1, 0, none⟩ = some (.bool s') := CY.out.cell 0
      have CY1 : w5.cell? ⟨w.heap.size + 1, 1, none⟩ = some (.slice A' xs'.length c') := CY.out.cell 1
      have CY2 : w5.cell? ⟨w.heap.size + 1, 2, none⟩ = some (.slice B' ys'.length d') := CY.out.cell 2
      have VX0 : w5.cell? ⟨w1.heap.size, 0, none⟩ = some (.bool false) := VX.out.cell 0
      have VX1 : w5.cell? ⟨w1.heap.size, 1, none⟩ = some (.slice Ax 0 cx) := VX.out.cell 1
      have VX2 : w5.cell? ⟨w1.heap.size, 2, none⟩ = some (.slice Ay 0 cy) := VX.out.cell 2
      go_wp2_with fail
      refine (refRatRight_is s A B c d (limbs n) (limbs d0) _ R1.out R2.out M.out.1 M.out.2.1 L18.out.1 L18.out.2.1 HR.out).mono ?_
      rintro e w6 ⟨rfl, hbl⟩
      replace R1 := Lib.hid (R1.out.below hbl)
      replace R2 := Lib.hid (R2.out.below hbl)
      replace R3 := Lib.hid (R3.out.below hbl)
      replace R4 := Lib.hid (R4.out.below hbl)
      replace Rx := Lib.hid (Rx.out.below hbl)
      replace HNx := Lib.hid (HNx.out.below hbl)
      replace Ry := Lib.hid (Ry.out.below hbl)
      replace HNy := Lib.hid (HNy.out.below hbl)
      replace CX := Lib.hid (CX.out.below hbl CX.out.lt)
      replace CY := Lib.hid (CY.out.below hbl CY.out.lt)
      replace VX := Lib.hid (VX.out.below hbl VX.out.lt)
      replace HW := Lib.hid (bel_trans HW.out hbl); clear hbl
      clear CX0 CX1 CX2 CY0 CY1 CY2 VX0 VX1 VX2
      have CX0 : w6.cell? ⟨w.heap.size, 0, none⟩ = some (.bool s) := CX.out.cell 0
      have CX1 : w6.cell? ⟨w.heap.size, 1, none⟩ = some (.slice A (limbs n).length c) := CX.out.cell 1
      have CX2 : w6.cell? ⟨w.heap.size, 2, none⟩ = some (.slice B (limbs d0).length d) := CX.out.cell 2
      have CY0 : w6.cell? ⟨w.heap.size + 1, 0, none⟩ = some (.bool s') := CY.out.cell 0
      have CY1 : w6.cell? ⟨w.heap.size + 1, 1, none⟩ = some (.slice A' xs'.length c') := CY.out.cell 1
      have CY2 : w6.cell? ⟨w.heap.size + 1, 2, none⟩ = some (.slice B' ys'.length d') := CY.out.cell 2
      have VX0 : w6.cell? ⟨w1.heap.size, 0, none⟩ = some (.bool false) := VX.out.cell 0
      have VX1 : w6.cell? ⟨w1.heap.size, 1, none⟩ = some (.slice Ax 0 cx) := VX.out.cell 1
      have VX2 : w6.cell? ⟨w1.heap.size, 2, none⟩ = some (.slice Ay 0 cy) := VX.out.cell 2
      go_wp2_with fail
      refine (refRight_bb A c (limbs n) _ R1.out L18.out.1).mono ?_
      rintro e w7 ⟨rfl, hbl⟩
      replace R1 := Lib.hid (R1.out.below hbl)
      replace R2 := Lib.hid (R2.out.below hbl)
      replace R3 := Lib.hid (R3.out.below hbl)
      replace R4 := Lib.hid (R4.out.below hbl)
      replace Rx := Lib.hid (Rx.out.below hbl)
      replace HNx := Lib.hid (HNx.out.below hbl)
      replace Ry := Lib.hid (Ry.out.below hbl)
      replace HNy := Lib.hid (HNy.out.below hbl)
      replace CX := Lib.hid (CX.out.below hbl CX.out.lt)
      replace CY := Lib.hid (CY.out.below hbl CY.out.lt)
      replace VX := Lib.hid (VX.out.below hbl VX.out.lt)
      replace HW := Lib.hid (bel_trans HW.out hbl); clear hbl
      clear CX0 CX1 CX2 CY0 CY1 CY2 VX0 VX1 VX2
      have CX0 : w7.cell? ⟨w.heap.size, 0, none⟩ = some (.bool s) := CX.out.cell 0
      have CX1 : w7.cell? ⟨w.heap.size, 1, none⟩ = some (.slice A (limbs n).length c) := CX.out.cell 1
      have CX2 : w7.cell? ⟨w.heap.size, 2, none⟩ = some (.slice B (limbs d0).length d) := CX.out.cell 2
      have CY0 : w7.cell? ⟨w.heap.size + 1, 0, none⟩ = some (.bool s') := CY.out.cell 0
      have CY1 : w7.cell? ⟨w.heap.size + 1, 1, none⟩ = some (.slice A' xs'.length c') := CY.out.cell 1
      have CY2 : w7.cell? ⟨w.heap.size + 1, 2, none⟩ = some (.slice B' ys'.length d') := CY.out.cell 2
      have VX0 : w7.cell? ⟨w1.heap.size, 0, none⟩ = some (.bool false) := VX.out.cell 0
      have VX1 : w7.cell? ⟨w1.heap.size, 1, none⟩ = some (.slice Ax 0 cx) := VX.out.cell 1
      have VX2 : w7.cell? ⟨w1.heap.size, 2, none⟩ = some (.slice Ay 0 cy) := VX.out.cell 2
      rw [rightL_limbs HX.out]
      go_wp2_with fail
      refine (refRight_bb A' c' xs' _ R3.out L18.out.2.2.1).mono ?_
      rintro e w8 ⟨rfl, hbl⟩
      replace R1 := Lib.hid (R1.out.below hbl)
      replace R2 := Lib.hid (R2.out.below hbl)
      replace R3 := Lib.hid (R3.out.below hbl)
      replace R4 := Lib.hid (R4.out.below hbl)
      replace Rx := Lib.hid (Rx.out.below hbl)
      replace HNx := Lib.hid (HNx.out.below hbl)
      replace Ry := Lib.hid (Ry.out.below hbl)
      replace HNy := Lib.hid (HNy.out.below hbl)
      replace CX := Lib.hid (CX.out.below hbl CX.out.lt)
      replace CY := Lib.hid (CY.out.below hbl CY.out.lt)
      replace VX := Lib.hid (VX.out.below hbl VX.out.lt)
      replace HW := Lib.hid (bel_trans HW.out hbl); clear hbl
      clear CX0 CX1 CX2 CY0 CY1 CY2 VX0 VX1 VX2
      have CX0 : w8.cell? ⟨w.heap.size, 0, none⟩ = some (.bool s) := CX.out.cell 0
      have CX1 : w8.cell? ⟨w.heap.size, 1, none⟩ = some (.slice A (limbs n).length c) := CX.out.cell 1
      have CX2 : w8.cell? ⟨w.heap.size, 2, none⟩ = some (.slice B (limbs d0).length d) := CX.out.cell 2
      have CY0 : w8.cell? ⟨w.heap.size + 1, 0, none⟩ = some (.bool s') := CY.out.cell 0
      have CY1 : w8.cell? ⟨w.heap.size + 1, 1, none⟩ = some (.slice A' xs'.length c') := CY.out.cell 1
      have CY2 : w8.cell? ⟨w.heap.size + 1, 2, none⟩ = some (.slice B' ys'.length d') := CY.out.cell 2
      have VX0 : w8.cell? ⟨w1.heap.size, 0, none⟩ = some (.bool false) := VX.out.cell 0
      have VX1 : w8.cell? ⟨w1.heap.size, 1, none⟩ = some (.slice Ax 0 cx) := VX.out.cell 1
      have VX2 : w8.cell? ⟨w1.heap.size, 2, none⟩ = some (.slice Ay 0 cy) := VX.out.cell 2
      rw [HB.out]
      go_wp2_with fail
      refine (same_none Ax Ay cx cy _).mono ?_
      rintro e w9 ⟨rfl, hbl⟩
      replace R1 := Lib.hid (R1.out.below hbl)
      replace R2 := Lib.hid (R2.out.below hbl)
      replace R3 := Lib.hid (R3.out.below hbl)
      replace R4 := Lib.hid (R4.out.below hbl)
      replace Rx := Lib.hid (Rx.out.below hbl)
      replace HNx := Lib.hid (HNx.out.below hbl)
      replace Ry := Lib.hid (Ry.out.below hbl)
      replace HNy := Lib.hid (HNy.out.below hbl)
      replace CX := Lib.hid (CX.out.below hbl CX.out.lt)
      replace CY := Lib.hid (CY.out.below hbl CY.out.lt)
      replace VX := Lib.hid (VX.out.below hbl VX.out.lt)
      replace HW := Lib.hid (bel_trans HW.out hbl); clear hbl
      clear CX0 CX1 CX2 CY0 CY1 CY2 VX0 VX1 VX2
      have CX0 : w9.cell? ⟨w.heap.size, 0, none⟩ = some (.bool s) := CX.out.cell 0
      have CX1 : w9.cell? ⟨w.heap.size, 1, none⟩ = some (.slice A (limbs n).length c) := CX.out.cell 1
      have CX2 : w9.cell? ⟨w.heap.size, 2, none⟩ = some (.slice B (limbs d0).length d) := CX.out.cell 2
      have CY0 : w9.cell? ⟨w.heap.size + 1, 0, none⟩ = some (.bool s') := CY.out.cell 0
      have CY1 : w9.cell? ⟨w.heap.size + 1, 1, none⟩ = some (.slice A' xs'.length c') := CY.out.cell 1
      have CY2 : w9.cell? ⟨w.heap.size + 1, 2, none⟩ = some (.slice B' ys'.length d') := CY.out.cell 2
      have VX0 : w9.cell? ⟨w1.heap.size, 0, none⟩ = some (.bool false) := VX.out.cell 0
      have VX1 : w9.cell? ⟨w1.heap.size, 1, none⟩ = some (.slice Ax 0 cx) := VX.out.cell 1
      have VX2 : w9.cell? ⟨w1.heap.size, 2, none⟩ = some (.slice Ay 0 cy) := VX.out.cell 2
      go_wp2
      go_ret
      exact ⟨rfl, HW.out⟩

set_option maxRecDepth 100000 in
set_option maxHeartbeats 1000000 in
theorem makes_r_zero (s s' : Bool) (A B A' B' : Option Addr) (c d c' d' : Nat) (x0 y0 x0' y0' : List Nat) (n d0 : Nat) (ys' : List Nat) (neg : Bool) (w : World) (h1 : RdL w A x0) (h2 : RdL w B y0) (h3 : RdL w A' x0') (h4 : RdL w B' y0') (k1 : x0.length ≤ c) (k2 : y0.length ≤ d) (k3 : x0'.length ≤ c') (k4 : y0'.length ≤ d') (m1 : Lim x0) (m2 : Lim y0) (m3 : Lim x0') (m4 : Lim y0') (hn : n < Top) (hd : d0 < Top) (hq : QR ⟨s, n, d0⟩) (e1 : few x0 = (limbs n)) (e2 : few y0 = (limbs d0)) (e3 : few x0' = ([] : List Nat)) (e4 : few y0' = ys') :
    Calls Try.prog 4 #[.agg #[.bool s, .slice A x0.length c, .slice B y0.length d], .agg #[.bool s', .slice A' x0'.length c', .slice B' y0'.length d'], .bool neg] w (RetT w) := by
  have HR := Lib.hid ((rightB_q (s := s) hn hd).2 hq)
  have HQ := Lib.hid (And.intro hn (And.intro hd hq)); clear hd hq
  have HX := Lib.hid hn; clear hn
  have R1 := Lib.hid (show RdL w A (limbs n) by rw [← e1]; exact h1.take 18); clear h1
  have R2 := Lib.hid (show RdL w B (limbs d0) by rw [← e2]; exact h2.take 18); clear h2
  have R3 := Lib.hid (show RdL w A' ([] : List Nat) by rw [← e3]; exact h3.take 18); clear h3
  have R4 := Lib.hid (show RdL w B' ys' by rw [← e4]; exact h4.take 18); clear h4
  have L18 := Lib.hid (show (limbs n).length ≤ 18 ∧ (limbs d0).length ≤ 18 ∧ ([] : List Nat).length ≤ 18 ∧ ys'.length ≤ 18 by rw [← e1, ← e2, ← e3, ← e4]; exact ⟨few_le _, few_le _, few_le _, few_le _⟩)
  have KC := Lib.hid (show (limbs n).length ≤ c ∧ (limbs d0).length ≤ d ∧ ([] : List Nat).length ≤ c' ∧ ys'.length ≤ d' by rw [← e1, ← e2, ← e3, ← e4]; exact ⟨Nat.le_trans (few_short _) k1, Nat.le_trans (few_short _) k2, Nat.le_trans (few_short _) k3, Nat.le_trans (few_short _) k4⟩)
  have M := Lib.hid (show Lim (limbs n) ∧ Lim (limbs d0) ∧ Lim ([] : List Nat) ∧ Lim ys' by rw [← e1, ← e2, ← e3, ← e4]; exact ⟨few_lim m1, few_lim m2, few_lim m3, few_lim m4⟩); clear m1 m2 m3 m4
  have F := Lib.hid (And.intro (And.intro k1 (And.intro k2 (And.intro e1 e2))) (And.intro k3 (And.intro k4 (And.intro e3 e4)))); clear k1 k2 k3 k4 e1 e2 e3 e4
  obtain ⟨wa, hwa⟩ : ∃ wa, wa = (w.alloc (.cells #[.bool s, .slice A x0.length c, .slice B y0.length d] 25)).alloc (.cells #[.bool s', .slice A' x0'.length c', .slice B' y0'.length d'] 25) := ⟨_, rfl⟩
  have hbl : Below w.heap.size w wa := by rw [hwa]; exact bel_alloc (bel_alloc (bel_refl _) _) _
  have CX : Blk wa (w.heap.size) 25 #[.bool s, .slice A x0.length c, .slice B y0.length d] := by
    have hz := Blk.new (w) 25 #[.bool s, .slice A x0.length c, .slice B y0.length d]
    rw [hwa]
    exact (hz.alloc _)
  have CY : Blk wa (w.heap.size + 1) 25 #[.bool s', .slice A' x0'.length c', .slice B' y0'.length d'] := by
    have hz := Blk.new (w.alloc (.cells #[.bool s, .slice A x0.length c, .slice B y0.length d] 25)) 25 #[.bool s', .slice A' x0'.length c', .slice B' y0'.length d']
    rw [World.size_alloc] at hz
    rw [hwa]
    exact hz
  replace R1 := Lib.hid (R1.out.below hbl)
  replace R2 := Lib.hid (R2.out.below hbl)
  replace R3 := Lib.hid (R3.out.below hbl)
  replace R4 := Lib.hid (R4.out.below hbl)
  have HW := Lib.hid hbl; clear hbl
  replace CX := Lib.hid CX
  replace CY := Lib.hid CY
  go_enter Try.func4, Try.ntmps4
  go_wp2_with fail
  rw [← hwa]
  clear hwa
  refine wp_region_typed 4 (TOf [VIs (.agg #[.bool s, .slice A x0.length c, .slice B y0.length d]),
      VIs (.agg #[.bool s, .slice A (limbs n).length c, .slice B (limbs d0).length d]),
      VIs (.agg #[.bool s', .slice A' x0'.length c', .slice B' y0'.length d']),
      VIs (.agg #[.bool s', .slice A' 0 c', .slice B' ys'.length d'])]) (by kernel_rfl) (by kernel_rfl) (by kernel_rfl) (LiftAll.at_ (.cons (VIs.lift _) (.cons (VIs.lift _) (.cons (VIs.lift _) (.cons (VIs.lift _) .nil))))) (steps_all (steps_cons ?_ (steps_cons ?_ (steps_cons ?_ (steps_cons ?_ steps_zero))))) ?fin
  · intro a0 w9 K9 hF hB hK hC
    have b3 := hF.base (k := 3) (v := .pointer (some ⟨w.heap.size, 0, none⟩)) (by kernel_rfl) rfl
    have x90 : w9.cell? ⟨w.heap.size, 0, none⟩ = some (.bool s) := (CX.out.below hB CX.out.lt).cell 0
    have x91 : w9.cell? ⟨w.heap.size, 1, none⟩ = some (.slice A x0.length c) := (CX.out.below hB CX.out.lt).cell 1
    have x92 : w9.cell? ⟨w.heap.size, 2, none⟩ = some (.slice B y0.length d) := (CX.out.below hB CX.out.lt).cell 2
    clear hF hB hK
    go_simp
    exact hC _ _ (bel_refl _) fun _ _ => rfl
  · intro a0 w9 K9 hF hB hK hC
    obtain ⟨v11, e11, z11⟩ := dep hK 0 (g := .data) (j := 0) (k := 11) rfl rfl rfl
    have z11 : v11 = .agg #[.bool s, .slice A x0.length c, .slice B y0.length d] := z11
    subst z11
    have HB9 := Lib.hid hB
    clear hF hB hK
    go_simp
    refine (fewQ_is s A B c d x0 y0 (limbs n) (limbs d0) _ F.out.1.1 F.out.1.2.1 F.out.1.2.2.1 F.out.1.2.2.2).mono ?_
    rintro e w7 ⟨rfl, hbl⟩
    exact hC _ _ hbl fun _ _ => rfl
  · intro a0 w9 K9 hF hB hK hC
    have b4 := hF.base (k := 4) (v := .pointer (some ⟨w.heap.size + 1, 0, none⟩)) (by kernel_rfl) rfl
    have x90 : w9.cell? ⟨w.heap.size + 1, 0, none⟩ = some (.bool s') := (CY.out.below hB CY.out.lt).cell 0
    have x91 : w9.cell? ⟨w.heap.size + 1, 1, none⟩ = some (.slice A' x0'.length c') := (CY.out.below hB CY.out.lt).cell 1
    have x92 : w9.cell? ⟨w.heap.size + 1, 2, none⟩ = some (.slice B' y0'.length d') := (CY.out.below hB CY.out.lt).cell 2
    clear hF hB hK
    go_simp
    exact hC _ _ (bel_refl _) fun _ _ => rfl
  · intro a0 w9 K9 hF hB hK hC
    obtain ⟨v13, e13, z13⟩ := dep hK 0 (g := .data) (j := 2) (k := 13) rfl rfl rfl
    have z13 : v13 = .agg #[.bool s', .slice A' x0'.length c', .slice B' y0'.length d'] := z13
    subst z13
    have HB9 := Lib.hid hB
    clear hF hB hK
    go_simp
    refine (fewQ_is s' A' B' c' d' x0' y0' ([] : List Nat) ys' _ F.out.2.1 F.out.2.2.1 F.out.2.2.2.1 F.out.2.2.2.2).mono ?_
    rintro e w7 ⟨rfl, hbl⟩
    exact hC _ _ hbl fun _ _ => rfl
  case fin =>
    intro a0 w9 hF hB hK
    have b3 := hF.base (k := 3) (v := .pointer (some ⟨w.heap.size, 0, none⟩)) (by kernel_rfl) rfl
    have b4 := hF.base (k := 4) (v := .pointer (some ⟨w.heap.size + 1, 0, none⟩)) (by kernel_rfl) rfl
    have b2 := hF.base (k := 2) (v := .bool neg) (by kernel_rfl) rfl
    have hsz := hF.size
    have hdf := hF.defers
    clear hF
    obtain ⟨v12, e12, z12⟩ := known hK 1 (k := 12) (by decide) rfl
    have z12 : v12 = .agg #[.bool s, .slice A (limbs n).length c, .slice B (limbs d0).length d] := z12
    subst z12
    obtain ⟨v14, e14, z14⟩ := known hK 3 (k := 14) (by decide) rfl
    have z14 : v14 = .agg #[.bool s', .slice A' 0 c', .slice B' ys'.length d'] := z14
    subst z14
    clear hK
    obtain ⟨⟨l0⟩, df⟩ := a0
    have hs0 : l0.length = 119 := hsz
    clear hsz
    replace hdf : df = _ := hdf
    subst hdf
    obtain ⟨u, rfl⟩ := lits_119 hs0
    clear hs0
    have q3 : u 3 = _ := Option.some.inj b3
    clear b3
    have q4 : u 4 = _ := Option.some.inj b4
    clear b4
    have q2 : u 2 = _ := Option.some.inj b2
    clear b2
    have q12 : u 12 = _ := Option.some.inj e12
    clear e12
    have q14 : u 14 = _ := Option.some.inj e14
    clear e14
    rw [q3, q4, q2, q12, q14]
    clear q3 q4 q2 q12 q14
    have hbl := hB; clear hB
    replace R1 := Lib.hid (R1.out.below hbl)
    replace R2 := Lib.hid (R2.out.below hbl)
    replace R3 := Lib.hid (R3.out.below hbl)
    replace R4 := Lib.hid (R4.out.below hbl)
    replace CX := Lib.hid (CX.out.below hbl CX.out.lt)
    replace CY := Lib.hid (CY.out.below hbl CY.out.lt)
    replace HW := Lib.hid (bel_trans HW.out hbl); clear hbl
    simp only [List.drop_succ_cons, List.drop_zero]
    have pd0 := CX.out.cell 0
    have pf0 := CX.out.frozen 0
    have pd1 := CX.out.cell 1
    have pf1 := CX.out.frozen 1
    have pd2 := CX.out.cell 2
    have pf2 := CX.out.frozen 2
    have qd0 := CY.out.cell 0
    have qf0 := CY.out.frozen 0
    have qd1 := CY.out.cell 1
    have qf1 := CY.out.frozen 1
    have qd2 := CY.out.cell 2
    have qf2 := CY.out.frozen 2
    go_upto_region 2 with fail
    clear pd0 pf0 pd1 pf1 pd2 pf2 qd0 qf0 qd1 qf1 qd2 qf2
    obtain ⟨wf, hwf⟩ : ∃ wf, wf = ((((((w9.setCell ⟨w.heap.size, 0, none⟩ (.bool s)).setCell ⟨w.heap.size, 1, none⟩ (.slice A (limbs n).length c)).setCell ⟨w.heap.size, 2, none⟩ (.slice B (limbs d0).length d)).setCell ⟨w.heap.size + 1, 0, none⟩ (.bool s')).setCell ⟨w.heap.size + 1, 1, none⟩ (.slice A' 0 c')).setCell ⟨w.heap.size + 1, 2, none⟩ (.slice B' ys'.length d')) := ⟨_, rfl⟩
    rw [← hwf]
    replace R1 := Lib.hid (show RdL wf _ _ by rw [hwf]; exact RdL.set3 ((((CY.out).far (p := ⟨w.heap.size, 0, none⟩) (by simp) _).far (p := ⟨w.heap.size, 1, none⟩) (by simp) _).far (p := ⟨w.heap.size, 2, none⟩) (by simp) _) (RdL.set3 (CX.out) (R1.out) _ _ _) _ _ _)
    replace R2 := Lib.hid (show RdL wf _ _ by rw [hwf]; exact RdL.set3 ((((CY.out).far (p := ⟨w.heap.size, 0, none⟩) (by simp) _).far (p := ⟨w.heap.size, 1, none⟩) (by simp) _).far (p := ⟨w.heap.size, 2, none⟩) (by simp) _) (RdL.set3 (CX.out) (R2.out) _ _ _) _ _ _)
    replace R3 := Lib.hid (show RdL wf _ _ by rw [hwf]; exact RdL.set3 ((((CY.out).far (p := ⟨w.heap.size, 0, none⟩) (by simp) _).far (p := ⟨w.heap.size, 1, none⟩) (by simp) _).far (p := ⟨w.heap.size, 2, none⟩) (by simp) _) (RdL.set3 (CX.out) (R3.out) _ _ _) _ _ _)
    replace R4 := Lib.hid (show RdL wf _ _ by rw [hwf]; exact RdL.set3 ((((CY.out).far (p := ⟨w.heap.size, 0, none⟩) (by simp) _).far (p := ⟨w.heap.size, 1, none⟩) (by simp) _).far (p := ⟨w.heap.size, 2, none⟩) (by simp) _) (RdL.set3 (CX.out) (R4.out) _ _ _) _ _ _)
    have CX_ := Lib.hid (show Blk wf (w.heap.size) 25 #[.bool s, .slice A (limbs n).length c, .slice B (limbs d0).length d] by rw [hwf]; exact ((((((CX.out).put 0 (.bool s)).put 1 (.slice A (limbs n).length c)).put 2 (.slice B (limbs d0).length d)).far (p := ⟨w.heap.size + 1, 0, none⟩) (by simp) _).far (p := ⟨w.heap.size + 1, 1, none⟩) (by simp) _).far (p := ⟨w.heap.size + 1, 2, none⟩) (by simp) _)
    have CY_ := Lib.hid (show Blk wf (w.heap.size + 1) 25 #[.bool s', .slice A' 0 c', .slice B' ys'.length d'] by rw [hwf]; exact ((((((CY.out).far (p := ⟨w.heap.size, 0, none⟩) (by simp) _).far (p := ⟨w.heap.size, 1, none⟩) (by simp) _).far (p := ⟨w.heap.size, 2, none⟩) (by simp) _).put 0 (.bool s')).put 1 (.slice A' 0 c')).put 2 (.slice B' ys'.length d'))
    replace CX := CX_; clear CX_
    replace CY := CY_; clear CY_
    replace HW := Lib.hid (show Below w.heap.size w wf by rw [hwf]; exact bel_set (p := ⟨w.heap.size + 1, 2, none⟩) (bel_set (p := ⟨w.heap.size + 1, 1, none⟩) (bel_set (p := ⟨w.heap.size + 1, 0, none⟩) (bel_set (p := ⟨w.heap.size, 2, none⟩) (bel_set (p := ⟨w.heap.size, 1, none⟩) (bel_set (p := ⟨w.heap.size, 0, none⟩) (HW.out) (by show w.heap.size ≤ w.heap.size; omega) _) (by show w.heap.size ≤ w.heap.size; omega) _) (by show w.heap.size ≤ w.heap.size; omega) _) (by show w.heap.size ≤ w.heap.size + 1; omega) _) (by show w.heap.size ≤ w.heap.size + 1; omega) _) (by show w.heap.size ≤ w.heap.size + 1; omega) _)
    clear hwf
    have CX0 : wf.cell? ⟨w.heap.size, 0, none⟩ = some (.bool s) := CX.out.cell 0
    have CX1 : wf.cell? ⟨w.heap.size, 1, none⟩ = some (.slice A (limbs n).length c) := CX.out.cell 1
    have CX2 : wf.cell? ⟨w.heap.size, 2, none⟩ = some (.slice B (limbs d0).length d) := CX.out.cell 2
    have CY0 : wf.cell? ⟨w.heap.size + 1, 0, none⟩ = some (.bool s') := CY.out.cell 0
    have CY1 : wf.cell? ⟨w.heap.size + 1, 1, none⟩ = some (.slice A' 0 c') := CY.out.cell 1
    have CY2 : wf.cell? ⟨w.heap.size + 1, 2, none⟩ = some (.slice B' ys'.length d') := CY.out.cell 2
    go_wp2_with fail
    refine (make_zero neg A A' c c' (limbs n) [] _ R1.out R3.out L18.out.1 (by simp) (rightL_limbs HX.out) rfl rfl).mono ?_
    rintro e w1 ⟨vx, vy, rfl, hnx, hny, hbl⟩
    replace R1 := Lib.hid (R1.out.below hbl)
    replace R2 := Lib.hid (R2.out.below hbl)
    replace R3 := Lib.hid (R3.out.below hbl)
    replace R4 := Lib.hid (R4.out.below hbl)
    replace CX := Lib.hid (CX.out.below hbl CX.out.lt)
    replace CY := Lib.hid (CY.out.below hbl CY.out.lt)
    replace HW := Lib.hid (bel_trans HW.out hbl); clear hbl
    clear CX0 CX1 CX2 CY0 CY1 CY2
    have CX0 : w1.cell? ⟨w.heap.size, 0, none⟩ = some (.bool s) := CX.out.cell 0
    have CX1 : w1.cell? ⟨w.heap.size, 1, none⟩ = some (.slice A (limbs n).length c) := CX.out.cell 1
    have CX2 : w1.cell? ⟨w.heap.size, 2, none⟩ = some (.slice B (limbs d0).length d) := CX.out.cell 2
    have CY0 : w1.cell? ⟨w.heap.size + 1, 0, none⟩ = some (.bool s') := CY.out.cell 0
    have CY1 : w1.cell? ⟨w.heap.size + 1, 1, none⟩ = some (.slice A' 0 c') := CY.out.cell 1
    have CY2 : w1.cell? ⟨w.heap.size + 1, 2, none⟩ = some (.slice B' ys'.length d') := CY.out.cell 2
    have HNx := Lib.hid hnx; clear hnx
    obtain ⟨Ax, cx, rfl, hcx, hrx⟩ := HNx.out.row
    have Rx := Lib.hid hrx; have HCx := Lib.hid hcx; clear hrx hcx
    have HNy := Lib.hid hny; clear hny
    obtain ⟨Ay, cy, rfl, hcy, hry⟩ := HNy.out.row
    have Ry := Lib.hid hry; have HCy := Lib.hid hcy; clear hry hcy
    rw [show noQ.s = false from rfl, show noQ.n = 0 from rfl, show noQ.d = 0 from rfl, limbs0]
    go_upto_region 3 with fail
    obtain ⟨wm, hwm⟩ : ∃ wm, wm = w1.alloc (.cells #[.bool false, .slice Ax 0 cx, .slice Ay 0 cy] 25) := ⟨_, rfl⟩
    rw [← hwm]
    have hbl : Below w1.heap.size w1 wm := by rw [hwm]; exact bel_alloc (bel_refl _) _
    have VX : Blk wm (w1.heap.size) 25 #[.bool false, .slice Ax 0 cx, .slice Ay 0 cy] := by
      have hz := Blk.new (w1) 25 #[.bool false, .slice Ax 0 cx, .slice Ay 0 cy]
      rw [hwm]
      exact hz
    clear hwm
    replace R1 := Lib.hid (R1.out.below hbl)
    replace R2 := Lib.hid (R2.out.below hbl)
    replace R3 := Lib.hid (R3.out.below hbl)
    replace R4 := Lib.hid (R4.out.below hbl)
    replace Rx := Lib.hid (Rx.out.below hbl)
    replace HNx := Lib.hid (HNx.out.below hbl)
    replace Ry := Lib.hid (Ry.out.below hbl)
    replace HNy := Lib.hid (HNy.out.below hbl)
    replace CX := Lib.hid (CX.out.below hbl CX.out.lt)
    replace CY := Lib.hid (CY.out.below hbl CY.out.lt)
    replace HW := Lib.hid (bel_trans HW.out hbl); clear hbl
    replace VX := Lib.hid VX
    clear CX0 CX1 CX2 CY0 CY1 CY2
    have CX0 : wm.cell? ⟨w.heap.size, 0, none⟩ = some (.bool s) := CX.out.cell 0
    have CX1 : wm.cell? ⟨w.heap.size, 1, none⟩ = some (.slice A (limbs n).length c) := CX.out.cell 1
    have CX2 : wm.cell? ⟨w.heap.size, 2, none⟩ = some (.slice B (limbs d0).length d) := CX.out.cell 2
    have CY0 : wm.cell? ⟨w.heap.size + 1, 0, none⟩ = some (.bool s') := CY.out.cell 0
    have CY1 : wm.cell? ⟨w.heap.size + 1, 1, none⟩ = some (.slice A' 0 c') := CY.out.cell 1
    have CY2 : wm.cell? ⟨w.heap.size + 1, 2, none⟩ = some (.slice B' ys'.length d') := CY.out.cell 2
    have VX0 : wm.cell? ⟨w1.heap.size, 0, none⟩ = some (.bool false) := VX.out.cell 0
    have VX1 : wm.cell? ⟨w1.heap.size, 1, none⟩ = some (.slice Ax 0 cx) := VX.out.cell 1
    have VX2 : wm.cell? ⟨w1.heap.size, 2, none⟩ = some (.slice Ay 0 cy) := VX.out.cell 2
    go_wp2_with fail
    refine (rtext_q ⟨s, n, d0⟩ A B c d _ R1.out R2.out KC.out.1 KC.out.2.1 HQ.out.1 HQ.out.2.1 HQ.out.2.2).mono ?_
    rintro e w2 ⟨rfl, hbl⟩
    replace R1 := Lib.hid (R1.out.below hbl)
    replace R2 := Lib.hid (R2.out.below hbl)
    replace R3 := Lib.hid (R3.out.below hbl)
    replace R4 := Lib.hid (R4.out.below hbl)
    replace Rx := Lib.hid (Rx.out.below hbl)
    replace HNx := Lib.hid (HNx.out.below hbl)
    replace Ry := Lib.hid (Ry.out.below hbl)
    replace HNy := Lib.hid (HNy.out.below hbl)
    replace CX := Lib.hid (CX.out.below hbl CX.out.lt)
    replace CY := Lib.hid (CY.out.below hbl CY.out.lt)
    replace VX := Lib.hid (VX.out.below hbl VX.out.lt)
    replace HW := Lib.hid (bel_trans HW.out hbl); clear hbl
    clear CX0 CX1 CX2 CY0 CY1 CY2 VX0 VX1 VX2
    have CX0 : w2.cell? ⟨w.heap.size, 0, none⟩ = some (.bool s) := CX.out.cell 0
    have CX1 : w2.cell? ⟨w.heap.size, 1, none⟩ = some (.slice A (limbs n).length c) := CX.out.cell 1
    have CX2 : w2.cell? ⟨w.heap.size, 2, none⟩ = some (.slice B (limbs d0).length d) := CX.out.cell 2
    have CY0 : w2.cell? ⟨w.heap.size + 1, 0, none⟩ = some (.bool s') := CY.out.cell 0
    have CY1 : w2.cell? ⟨w.heap.size + 1, 1, none⟩ = some (.slice A' 0 c') := CY.out.cell 1
    have CY2 : w2.cell? ⟨w.heap.size + 1, 2, none⟩ = some (.slice B' ys'.length d') := CY.out.cell 2
    have VX0 : w2.cell? ⟨w1.heap.size, 0, none⟩ = some (.bool false) := VX.out.cell 0
    have VX1 : w2.cell? ⟨w1.heap.size, 1, none⟩ = some (.slice Ax 0 cx) := VX.out.cell 1
    have VX2 : w2.cell? ⟨w1.heap.size, 2, none⟩ = some (.slice Ay 0 cy) := VX.out.cell 2
    go_wp2_with fail
    refine wp_region_typedG 24 (TOf [VIs (.agg #[.bool s, .slice A (limbs n).length c, .slice B (limbs d0).length d]),
        VIs (.bool true),
        VIs (.agg #[.bool s, .slice A (limbs n).length c, .slice B (limbs d0).length d]),
        VIs (.bool true),
        VIs (.bool false),
        VIs (.bool false),
        VIs (.agg #[.bool s, .slice A (limbs n).length c, .slice B (limbs d0).length d]),
        VIs (.agg #[.bool s', .slice A' 0 c', .slice B' ys'.length d']),
        VIs (.bool (likeB s s' (limbs n) (limbs d0) ([] : List Nat) ys')),
        VIs (.agg #[.bool s, .slice A (limbs n).length c, .slice B (limbs d0).length d]),
        VIs (.agg #[.bool s', .slice A' 0 c', .slice B' ys'.length d']),
        VIs (.bool (likeB s s' (limbs n) (limbs d0) ([] : List Nat) ys')),
        VIs (.bool false),
        VIs (.bool false),
        VIs (.bool false),
        VIs (.agg #[.bool s, .slice A (limbs n).length c, .slice B (limbs d0).length d]),
        VIs (.agg #[.bool s, .slice A (limbs n).length c, .slice B (limbs d0).length d]),
        VIs (.bool true),
        VIs (.bool false),
        VIs (.bool false),
        VIs (.bool false),
        VIs (.bool true),
        VIs (.bool false),
        VIs (.bool false)]) (by kernel_rfl) (by kernel_rfl) (by kernel_rfl) (LiftAll.at_ (.cons (VIs.lift _) (.cons (VIs.lift _) (.cons (VIs.lift _) (.cons (VIs.lift _) (.cons (VIs.lift _) (.cons (VIs.lift _) (.cons (VIs.lift _) (.cons (VIs.lift _) (.cons (VIs.lift _) (.cons (VIs.lift _) (.cons (VIs.lift _) (.cons (VIs.lift _) (.cons (VIs.lift _) (.cons (VIs.lift _) (.cons (VIs.lift _) (.cons (VIs.lift _) (.cons (VIs.lift _) (.cons (VIs.lift _) (.cons (VIs.lift _) (.cons (VIs.lift _) (.cons (VIs.lift _) (.cons (VIs.lift _) (.cons (VIs.lift _) (.cons (VIs.lift _) .nil))))))))))))))))))))))))) (stepsG_all (stepsG_cons ?_ (stepsG_cons ?_ (stepsG_cons ?_ (stepsG_cons ?_ (stepsG_cons ?_ (stepsG_cons ?_ (stepsG_cons ?_ (stepsG_cons ?_ (stepsG_cons ?_ (stepsG_cons ?_ (stepsG_cons ?_ (stepsG_cons ?_ (stepsG_cons ?_ (stepsG_cons ?_ (stepsG_cons ?_ (stepsG_cons ?_ (stepsG_cons ?_ (stepsG_cons ?_ (stepsG_cons ?_ (stepsG_cons ?_ (stepsG_cons ?_ (stepsG_cons ?_ (stepsG_cons ?_ (stepsG_cons ?_ stepsG_zero))))))))))))))))))))))))) ?fin
    · refine stepG_plain rfl ?_
      intro a0 w9 K9 hF hB hK hC
      have b3 := hF.base (k := 3) (v := .pointer (some ⟨w.heap.size, 0, none⟩)) (by kernel_rfl) rfl
      have x90 : w9.cell? ⟨w.heap.size, 0, none⟩ = some (.bool s) := (CX.out.below hB CX.out.lt).cell 0
      have x91 : w9.cell? ⟨w.heap.size, 1, none⟩ = some (.slice A (limbs n).length c) := (CX.out.below hB CX.out.lt).cell 1
      have x92 : w9.cell? ⟨w.heap.size, 2, none⟩ = some (.slice B (limbs d0).length d) := (CX.out.below hB CX.out.lt).cell 2
      clear hF hB hK
      go_simp
      exact hC _ _ (bel_refl _) fun _ _ => rfl
    · refine stepG_plain rfl ?_
      intro a0 w9 K9 hF hB hK hC
      obtain ⟨v29, e29, z29⟩ := dep hK 0 (g := .data) (j := 0) (k := 29) rfl rfl rfl
      have z29 : v29 = .agg #[.bool s, .slice A (limbs n).length c, .slice B (limbs d0).length d] := z29
      subst z29
      have HB9 := Lib.hid hB
      clear hF hB hK
      go_simp
      refine (ratRight_is s A B c d (limbs n) (limbs d0) _ (R1.out.below HB9.out) (R2.out.below HB9.out) M.out.1 M.out.2.1 L18.out.1 L18.out.2.1 KC.out.1 KC.out.2.1 HR.out).mono ?_
      rintro e w7 ⟨rfl, hbl⟩
      exact hC _ _ hbl fun _ _ => rfl
    · refine stepG_plain rfl ?_
      intro a0 w9 K9 hF hB hK hC
      have b3 := hF.base (k := 3) (v := .pointer (some ⟨w.heap.size, 0, none⟩)) (by kernel_rfl) rfl
      have x90 : w9.cell? ⟨w.heap.size, 0, none⟩ = some (.bool s) := (CX.out.below hB CX.out.lt).cell 0
      have x91 : w9.cell? ⟨w.heap.size, 1, none⟩ = some (.slice A (limbs n).length c) := (CX.out.below hB CX.out.lt).cell 1
      have x92 : w9.cell? ⟨w.heap.size, 2, none⟩ = some (.slice B (limbs d0).length d) := (CX.out.below hB CX.out.lt).cell 2
      clear hF hB hK
      go_simp
      exact hC _ _ (bel_refl _) fun _ _ => rfl
    · refine stepG_plain rfl ?_
      intro a0 w9 K9 hF hB hK hC
      obtain ⟨v31, e31, z31⟩ := dep hK 0 (g := .data) (j := 2) (k := 31) rfl rfl rfl
      have z31 : v31 = .agg #[.bool s, .slice A (limbs n).length c, .slice B (limbs d0).length d] := z31
      subst z31
      have HB9 := Lib.hid hB
      clear hF hB hK
      go_simp
      refine (refRatRight_is s A B c d (limbs n) (limbs d0) _ (R1.out.below HB9.out) (R2.out.below HB9.out) M.out.1 M.out.2.1 L18.out.1 L18.out.2.1 HR.out).mono ?_
      rintro e w7 ⟨rfl, hbl⟩
      exact hC _ _ hbl fun _ _ => rfl
    · refine stepG_plain rfl ?_
      intro a0 w9 K9 hF hB hK hC
      obtain ⟨v30, e30, z30⟩ := dep hK 0 (g := .data) (j := 1) (k := 30) rfl rfl rfl
      have z30 : v30 = .bool true := z30
      subst z30
      obtain ⟨v32, e32, z32⟩ := dep hK 1 (g := .data) (j := 3) (k := 32) rfl rfl rfl
      have z32 : v32 = .bool true := z32
      subst z32
      have HB9 := Lib.hid hB
      clear hF hB hK
      go_simp
      exact hC _ _ (bel_refl _) fun _ _ => rfl
    · refine stepG_plain rfl ?_
      intro a0 w9 K9 hF hB hK hC
      obtain ⟨v33, e33, z33⟩ := dep hK 0 (g := .data) (j := 4) (k := 33) rfl rfl rfl
      have z33 : v33 = .bool false := z33
      subst z33
      clear hF hB hK
      go_simp
      exact hC _ _ (bel_refl _) fun _ _ => rfl
    · intro a0 w9 K9 hF hB hK hC
      obtain ⟨vg, eg, zg⟩ := dep hK 0 (g := .guard) (j := 5) (k := 34) rfl rfl rfl
      have zg : vg = .bool false := zg
      subst zg
      refine guard_in (j := 5) (k := 34) (want := false) rfl rfl eg rfl ?_
      have b3 := hF.base (k := 3) (v := .pointer (some ⟨w.heap.size, 0, none⟩)) (by kernel_rfl) rfl
      have x90 : w9.cell? ⟨w.heap.size, 0, none⟩ = some (.bool s) := (CX.out.below hB CX.out.lt).cell 0
      have x91 : w9.cell? ⟨w.heap.size, 1, none⟩ = some (.slice A (limbs n).length c) := (CX.out.below hB CX.out.lt).cell 1
      have x92 : w9.cell? ⟨w.heap.size, 2, none⟩ = some (.slice B (limbs d0).length d) := (CX.out.below hB CX.out.lt).cell 2
      clear hF hB hK
      go_simp
      exact hC _ _ (bel_refl _) fun _ _ => rfl
    · intro a0 w9 K9 hF hB hK hC
      obtain ⟨vg, eg, zg⟩ := dep hK 0 (g := .guard) (j := 5) (k := 34) rfl rfl rfl
      have zg : vg = .bool false := zg
      subst zg
      refine guard_in (j := 5) (k := 34) (want := false) rfl rfl eg rfl ?_
      have b4 := hF.base (k := 4) (v := .pointer (some ⟨w.heap.size + 1, 0, none⟩)) (by kernel_rfl) rfl
      have x90 : w9.cell? ⟨w.heap.size + 1, 0, none⟩ = some (.bool s') := (CY.out.below hB CY.out.lt).cell 0
      have x91 : w9.cell? ⟨w.heap.size + 1, 1, none⟩ = some (.slice A' 0 c') := (CY.out.below hB CY.out.lt).cell 1
      have x92 : w9.cell? ⟨w.heap.size + 1, 2, none⟩ = some (.slice B' ys'.length d') := (CY.out.below hB CY.out.lt).cell 2
      clear hF hB hK
      go_simp
      exact hC _ _ (bel_refl _) fun _ _ => rfl
    · intro a0 w9 K9 hF hB hK hC
      obtain ⟨vg, eg, zg⟩ := dep hK 3 (g := .guard) (j := 5) (k := 34) rfl rfl rfl
      have zg : vg = .bool false := zg
      subst zg
      refine guard_in (j := 5) (k := 34) (want := false) rfl rfl eg rfl ?_
      obtain ⟨v35, e35, z35⟩ := dep hK 0 (g := .data) (j := 6) (k := 35) rfl rfl rfl
      have z35 : v35 = .agg #[.bool s, .slice A (limbs n).length c, .slice B (limbs d0).length d] := z35
      subst z35
      obtain ⟨v36, e36, z36⟩ := dep hK 1 (g := .data) (j := 7) (k := 36) rfl rfl rfl
      have z36 : v36 = .agg #[.bool s', .slice A' 0 c', .slice B' ys'.length d'] := z36
      subst z36
      have HB9 := Lib.hid hB
      clear hF hB hK
      go_simp
      refine (like_ok s s' A B A' B' c d c' d' (limbs n) (limbs d0) ([] : List Nat) ys' _ (R1.out.below HB9.out) (R3.out.below HB9.out) L18.out.1 (R2.out.below HB9.out) (R4.out.below HB9.out) L18.out.2.1 rfl).mono ?_
      rintro e w7 ⟨rfl, hbl⟩
      exact hC _ _ hbl fun _ _ => rfl
    · intro a0 w9 K9 hF hB hK hC
      obtain ⟨vg, eg, zg⟩ := dep hK 0 (g := .guard) (j := 5) (k := 34) rfl rfl rfl
      have zg : vg = .bool false := zg
      subst zg
      refine guard_in (j := 5) (k := 34) (want := false) rfl rfl eg rfl ?_
      have b3 := hF.base (k := 3) (v := .pointer (some ⟨w.heap.size, 0, none⟩)) (by kernel_rfl) rfl
      have x90 : w9.cell? ⟨w.heap.size, 0, none⟩ = some (.bool s) := (CX.out.below hB CX.out.lt).cell 0
      have x91 : w9.cell? ⟨w.heap.size, 1, none⟩ = some (.slice A (limbs n).length c) := (CX.out.below hB CX.out.lt).cell 1
      have x92 : w9.cell? ⟨w.heap.size, 2, none⟩ = some (.slice B (limbs d0).length d) := (CX.out.below hB CX.out.lt).cell 2
      clear hF hB hK
      go_simp
      exact hC _ _ (bel_refl _) fun _ _ => rfl
    · intro a0 w9 K9 hF hB hK hC
      obtain ⟨vg, eg, zg⟩ := dep hK 0 (g := .guard) (j := 5) (k := 34) rfl rfl rfl
      have zg : vg = .bool false := zg
      subst zg
      refine guard_in (j := 5) (k := 34) (want := false) rfl rfl eg rfl ?_
      have b4 := hF.base (k := 4) (v := .pointer (some ⟨w.heap.size + 1, 0, none⟩)) (by kernel_rfl) rfl
      have x90 : w9.cell? ⟨w.heap.size + 1, 0, none⟩ = some (.bool s') := (CY.out.below hB CY.out.lt).cell 0
      have x91 : w9.cell? ⟨w.heap.size + 1, 1, none⟩ = some (.slice A' 0 c') := (CY.out.below hB CY.out.lt).cell 1
      have x92 : w9.cell? ⟨w.heap.size + 1, 2, none⟩ = some (.slice B' ys'.length d') := (CY.out.below hB CY.out.lt).cell 2
      clear hF hB hK
      go_simp
      exact hC _ _ (bel_refl _) fun _ _ => rfl
    · intro a0 w9 K9 hF hB hK hC
      obtain ⟨vg, eg, zg⟩ := dep hK 3 (g := .guard) (j := 5) (k := 34) rfl rfl rfl
      have zg : vg = .bool false := zg
      subst zg
      refine guard_in (j := 5) (k := 34) (want := false) rfl rfl eg rfl ?_
      obtain ⟨v38, e38, z38⟩ := dep hK 0 (g := .data) (j := 9) (k := 38) rfl rfl rfl
      have z38 : v38 = .agg #[.bool s, .slice A (limbs n).length c, .slice B (limbs d0).length d] := z38
      subst z38
      obtain ⟨v39, e39, z39⟩ := dep hK 1 (g := .data) (j := 10) (k := 39) rfl rfl rfl
      have z39 : v39 = .agg #[.bool s', .slice A' 0 c', .slice B' ys'.length d'] := z39
      subst z39
      have HB9 := Lib.hid hB
      clear hF hB hK
      go_simp
      refine (refSame_ok s s' A B A' B' c d c' d' (limbs n) (limbs d0) ([] : List Nat) ys' _ (R1.out.below HB9.out) (R3.out.below HB9.out) L18.out.1 (R2.out.below HB9.out) (R4.out.below HB9.out) L18.out.2.1 rfl).mono ?_
      rintro e w7 ⟨rfl, hbl⟩
      exact hC _ _ hbl fun _ _ => rfl
    · intro a0 w9 K9 hF hB hK hC
      obtain ⟨vg, eg, zg⟩ := dep hK 2 (g := .guard) (j := 5) (k := 34) rfl rfl rfl
      have zg : vg = .bool false := zg
      subst zg
      refine guard_in (j := 5) (k := 34) (want := false) rfl rfl eg rfl ?_
      obtain ⟨v37, e37, z37⟩ := dep hK 0 (g := .data) (j := 8) (k := 37) rfl rfl rfl
      have z37 : v37 = .bool (likeB s s' (limbs n) (limbs d0) ([] : List Nat) ys') := z37
      subst z37
      obtain ⟨v40, e40, z40⟩ := dep hK 1 (g := .data) (j := 11) (k := 40) rfl rfl rfl
      have z40 : v40 = .bool (likeB s s' (limbs n) (limbs d0) ([] : List Nat) ys') := z40
      subst z40
      have HB9 := Lib.hid hB
      clear hF hB hK
      go_simp
      exact hC _ _ (bel_refl _) fun _ _ => rfl
    · refine stepG_plain rfl ?_
      intro a0 w9 K9 hF hB hK hC
      obtain ⟨v34, e34, z34⟩ := dep hK 0 (g := .data) (j := 5) (k := 34) rfl rfl rfl
      have z34 : v34 = .bool false := z34
      subst z34
      obtain ⟨v41, e41, z41⟩ := dep hK 1 (g := .data) (j := 12) (k := 41) rfl rfl rfl
      have z41 : v41 = .bool false := z41
      subst z41
      have HB9 := Lib.hid hB
      clear hF hB hK
      go_simp
      exact hC _ _ (bel_refl _) fun _ _ => rfl
    · refine stepG_plain rfl ?_
      intro a0 w9 K9 hF hB hK hC
      obtain ⟨v42, e42, z42⟩ := dep hK 0 (g := .data) (j := 13) (k := 42) rfl rfl rfl
      have z42 : v42 = .bool false := z42
      subst z42
      clear hF hB hK
      go_simp
      exact hC _ _ (bel_refl _) fun _ _ => rfl
    · intro a0 w9 K9 hF hB hK hC
      obtain ⟨vg, eg, zg⟩ := dep hK 0 (g := .guard) (j := 14) (k := 43) rfl rfl rfl
      have zg : vg = .bool false := zg
      subst zg
      refine guard_in (j := 14) (k := 43) (want := false) rfl rfl eg rfl ?_
      have b3 := hF.base (k := 3) (v := .pointer (some ⟨w.heap.size, 0, none⟩)) (by kernel_rfl) rfl
      have x90 : w9.cell? ⟨w.heap.size, 0, none⟩ = some (.bool s) := (CX.out.below hB CX.out.lt).cell 0
      have x91 : w9.cell? ⟨w.heap.size, 1, none⟩ = some (.slice A (limbs n).length c) := (CX.out.below hB CX.out.lt).cell 1
      have x92 : w9.cell? ⟨w.heap.size, 2, none⟩ = some (.slice B (limbs d0).length d) := (CX.out.below hB CX.out.lt).cell 2
      clear hF hB hK
      go_simp
      exact hC _ _ (bel_refl _) fun _ _ => rfl
    · intro a0 w9 K9 hF hB hK hC
      obtain ⟨vg, eg, zg⟩ := dep hK 0 (g := .guard) (j := 14) (k := 43) rfl rfl rfl
      have zg : vg = .bool false := zg
      subst zg
      refine guard_in (j := 14) (k := 43) (want := false) rfl rfl eg rfl ?_
      have b3 := hF.base (k := 3) (v := .pointer (some ⟨w.heap.size, 0, none⟩)) (by kernel_rfl) rfl
      have x90 : w9.cell? ⟨w.heap.size, 0, none⟩ = some (.bool s) := (CX.out.below hB CX.out.lt).cell 0
      have x91 : w9.cell? ⟨w.heap.size, 1, none⟩ = some (.slice A (limbs n).length c) := (CX.out.below hB CX.out.lt).cell 1
      have x92 : w9.cell? ⟨w.heap.size, 2, none⟩ = some (.slice B (limbs d0).length d) := (CX.out.below hB CX.out.lt).cell 2
      clear hF hB hK
      go_simp
      exact hC _ _ (bel_refl _) fun _ _ => rfl
    · intro a0 w9 K9 hF hB hK hC
      obtain ⟨vg, eg, zg⟩ := dep hK 3 (g := .guard) (j := 14) (k := 43) rfl rfl rfl
      have zg : vg = .bool false := zg
      subst zg
      refine guard_in (j := 14) (k := 43) (want := false) rfl rfl eg rfl ?_
      obtain ⟨v44, e44, z44⟩ := dep hK 0 (g := .data) (j := 15) (k := 44) rfl rfl rfl
      have z44 : v44 = .agg #[.bool s, .slice A (limbs n).length c, .slice B (limbs d0).length d] := z44
      subst z44
      obtain ⟨v45, e45, z45⟩ := dep hK 1 (g := .data) (j := 16) (k := 45) rfl rfl rfl
      have z45 : v45 = .agg #[.bool s, .slice A (limbs n).length c, .slice B (limbs d0).length d] := z45
      subst z45
      have HB9 := Lib.hid hB
      clear hF hB hK
      go_simp
      refine (like_ok s s A B A B c d c d (limbs n) (limbs d0) (limbs n) (limbs d0) _ (R1.out.below HB9.out) (R1.out.below HB9.out) L18.out.1 (R2.out.below HB9.out) (R2.out.below HB9.out) L18.out.2.1 (like_self _ _ _)).mono ?_
      rintro e w7 ⟨rfl, hbl⟩
      exact hC _ _ hbl fun _ _ => rfl
    · intro a0 w9 K9 hF hB hK hC
      obtain ⟨vg, eg, zg⟩ := dep hK 1 (g := .guard) (j := 14) (k := 43) rfl rfl rfl
      have zg : vg = .bool false := zg
      subst zg
      refine guard_in (j := 14) (k := 43) (want := false) rfl rfl eg rfl ?_
      obtain ⟨v46, e46, z46⟩ := dep hK 0 (g := .data) (j := 17) (k := 46) rfl rfl rfl
      have z46 : v46 = .bool true := z46
      subst z46
      have HB9 := Lib.hid hB
      clear hF hB hK
      go_simp
      exact hC _ _ (bel_refl _) fun _ _ => rfl
    · refine stepG_plain rfl ?_
      intro a0 w9 K9 hF hB hK hC
      obtain ⟨v43, e43, z43⟩ := dep hK 0 (g := .data) (j := 14) (k := 43) rfl rfl rfl
      have z43 : v43 = .bool false := z43
      subst z43
      obtain ⟨v47, e47, z47⟩ := dep hK 1 (g := .data) (j := 18) (k := 47) rfl rfl rfl
      have z47 : v47 = .bool false := z47
      subst z47
      have HB9 := Lib.hid hB
      clear hF hB hK
      go_simp
      exact hC _ _ (bel_refl _) fun _ _ => rfl
    · refine stepG_plain rfl ?_
      intro a0 w9 K9 hF hB hK hC
      obtain ⟨v48, e48, z48⟩ := dep hK 0 (g := .data) (j := 19) (k := 48) rfl rfl rfl
      have z48 : v48 = .bool false := z48
      subst z48
      clear hF hB hK
      go_simp
      exact hC _ _ (bel_refl _) fun _ _ => rfl
    · intro a0 w9 K9 hF hB hK hC
      obtain ⟨vg, eg, zg⟩ := dep hK 1 (g := .guard) (j := 20) (k := 49) rfl rfl rfl
      have zg : vg = .bool false := zg
      subst zg
      refine guard_in (j := 20) (k := 49) (want := false) rfl rfl eg rfl ?_
      have HB9 := Lib.hid hB
      clear hF hB hK
      go_simp
      refine (aliveQ _).mono ?_
      rintro e w7 ⟨rfl, hbl⟩
      exact hC _ _ hbl fun _ _ => rfl
    · intro a0 w9 K9 hF hB hK hC
      obtain ⟨vg, eg, zg⟩ := dep hK 1 (g := .guard) (j := 20) (k := 49) rfl rfl rfl
      have zg : vg = .bool false := zg
      subst zg
      refine guard_in (j := 20) (k := 49) (want := false) rfl rfl eg rfl ?_
      obtain ⟨v50, e50, z50⟩ := dep hK 0 (g := .data) (j := 21) (k := 50) rfl rfl rfl
      have z50 : v50 = .bool true := z50
      subst z50
      have HB9 := Lib.hid hB
      clear hF hB hK
      go_simp
      exact hC _ _ (bel_refl _) fun _ _ => rfl
    · refine stepG_plain rfl ?_
      intro a0 w9 K9 hF hB hK hC
      obtain ⟨v49, e49, z49⟩ := dep hK 0 (g := .data) (j := 20) (k := 49) rfl rfl rfl
      have z49 : v49 = .bool false := z49
      subst z49
      obtain ⟨v51, e51, z51⟩ := dep hK 1 (g := .data) (j := 22) (k := 51) rfl rfl rfl
      have z51 : v51 = .bool false := z51
      subst z51
      have HB9 := Lib.hid hB
      clear hF hB hK
      go_simp
      exact hC _ _ (bel_refl _) fun _ _ => rfl
    case fin =>
      intro a0 w9 hF hB hK
      have b2 := hF.base (k := 2) (v := .bool neg) (by kernel_rfl) rfl
      have b3 := hF.base (k := 3) (v := .pointer (some ⟨w.heap.size, 0, none⟩)) (by kernel_rfl) rfl
      have b4 := hF.base (k := 4) (v := .pointer (some ⟨w.heap.size + 1, 0, none⟩)) (by kernel_rfl) rfl
      have b7 := hF.base (k := 7) (v := .pointer (some ⟨w1.heap.size, 0, none⟩)) (by kernel_rfl) rfl
      have b8 := hF.base (k := 8) (v := .int .i64 4) (by kernel_rfl) rfl
      have b9 := hF.base (k := 9) (v := .string (qText s n d0)) (by kernel_rfl) rfl
      have b10 := hF.base (k := 10) (v := .int .i64 0) (by kernel_rfl) rfl
      have hsz := hF.size
      have hdf := hF.defers
      clear hF
      obtain ⟨v52, e52, z52⟩ := known hK 23 (k := 52) (by decide) rfl
      have z52 : v52 = .bool false := z52
      subst z52
      clear hK
      obtain ⟨⟨l0⟩, df⟩ := a0
      have hs0 : l0.length = 119 := hsz
      clear hsz
      replace hdf : df = _ := hdf
      subst hdf
      obtain ⟨u, rfl⟩ := lits_119 hs0
      clear hs0
      have q2 : u 2 = _ := Option.some.inj b2
      clear b2
      have q3 : u 3 = _ := Option.some.inj b3
      clear b3
      have q4 : u 4 = _ := Option.some.inj b4
      clear b4
      have q7 : u 7 = _ := Option.some.inj b7
      clear b7
      have q8 : u 8 = _ := Option.some.inj b8
      clear b8
      have q9 : u 9 = _ := Option.some.inj b9
      clear b9
      have q10 : u 10 = _ := Option.some.inj b10
      clear b10
      have q52 : u 52 = _ := Option.some.inj e52
      clear e52
      rw [q2, q3, q4, q7, q8, q9, q10, q52]
      clear q2 q3 q4 q7 q8 q9 q10 q52
      have hbl := hB; clear hB
      replace R1 := Lib.hid (R1.out.below hbl)
      replace R2 := Lib.hid (R2.out.below hbl)
      replace R3 := Lib.hid (R3.out.below hbl)
      replace R4 := Lib.hid (R4.out.below hbl)
      replace Rx := Lib.hid (Rx.out.below hbl)
      replace HNx := Lib.hid (HNx.out.below hbl)
      replace Ry := Lib.hid (Ry.out.below hbl)
      replace HNy := Lib.hid (HNy.out.below hbl)
      replace CX := Lib.hid (CX.out.below hbl CX.out.lt)
      replace CY := Lib.hid (CY.out.below hbl CY.out.lt)
      replace VX := Lib.hid (VX.out.below hbl VX.out.lt)
      replace HW := Lib.hid (bel_trans HW.out hbl); clear hbl
      clear CX0 CX1 CX2 CY0 CY1 CY2 VX0 VX1 VX2
      have CX0 : w9.cell? ⟨w.heap.size, 0, none⟩ = some (.bool s) := CX.out.cell 0
      have CX1 : w9.cell? ⟨w.heap.size, 1, none⟩ = some (.slice A (limbs n).length c) := CX.out.cell 1
      have CX2 : w9.cell? ⟨w.heap.size, 2, none⟩ = some (.slice B (limbs d0).length d) := CX.out.cell 2
      have CY0 : w9.cell? ⟨w.heap.size + 1, 0, none⟩ = some (.bool s') := CY.out.cell 0
      have CY1 : w9.cell? ⟨w.heap.size + 1, 1, none⟩ = some (.slice A' 0 c') := CY.out.cell 1
      have CY2 : w9.cell? ⟨w.heap.size + 1, 2, none⟩ = some (.slice B' ys'.length d') := CY.out.cell 2
      have VX0 : w9.cell? ⟨w1.heap.size, 0, none⟩ = some (.bool false) := VX.out.cell 0
      have VX1 : w9.cell? ⟨w1.heap.size, 1, none⟩ = some (.slice Ax 0 cx) := VX.out.cell 1
      have VX2 : w9.cell? ⟨w1.heap.size, 2, none⟩ = some (.slice Ay 0 cy) := VX.out.cell 2
      refine wpList_nil ?_
      go_wp2_with fail
      refine (refRatRight_is s A B c d (limbs n) (limbs d0) _ R1.out R2.out M.out.1 M.out.2.1 L18.out.1 L18.out.2.1 HR.out).mono ?_
      rintro e w3 ⟨rfl, hbl⟩
      replace R1 := Lib.hid (R1.out.below hbl)
      replace R2 := Lib.hid (R2.out.below hbl)
      replace R3 := Lib.hid (R3.out.below hbl)
      replace R4 := Lib.hid (R4.out.below hbl)
      replace Rx := Lib.hid (Rx.out.below hbl)
      replace HNx := Lib.hid (HNx.out.below hbl)
      replace Ry := Lib.hid (Ry.out.below hbl)
      replace HNy := Lib.hid (HNy.out.below hbl)
      replace CX := Lib.hid (CX.out.below hbl CX.out.lt)
      replace CY := Lib.hid (CY.out.below hbl CY.out.lt)
      replace VX := Lib.hid (VX.out.below hbl VX.out.lt)
      replace HW := Lib.hid (bel_trans HW.out hbl); clear hbl
      clear CX0 CX1 CX2 CY0 CY1 CY2 VX0 VX1 VX2
      have CX0 : w3.cell? ⟨w.heap.size, 0, none⟩ = some (.bool s) := CX.out.cell 0
      have CX1 : w3.cell? ⟨w.heap.size, 1, none⟩ = some (.slice A (limbs n).length c) := CX.out.cell 1
      have CX2 : w3.cell? ⟨w.heap.size, 2, none⟩ = some (.slice B (limbs d0).length d) := CX.out.cell 2
      have CY0 : w3.cell? ⟨w.heap.size + 1, 0, none⟩ = some (.bool s') := CY.out.cell 0
      have CY1 : w3.cell? ⟨w.heap.size + 1, 1, none⟩ = some (.slice A' 0 c') := CY.out.cell 1
      have CY2 : w3.cell? ⟨w.heap.size + 1, 2, none⟩ = some (.slice B' ys'.length d') := CY.out.cell 2
      have VX0 : w3.cell? ⟨w1.heap.size, 0, none⟩ = some (.bool false) := VX.out.cell 0
      have VX1 : w3.cell? ⟨w1.heap.size, 1, none⟩ = some (.slice Ax 0 cx) := VX.out.cell 1
      have VX2 : w3.cell? ⟨w1.heap.size, 2, none⟩ = some (.slice Ay 0 cy) := VX.out.cell 2
      go_wp2_with fail
      refine (refOf_any s A B c d n d0 _ R1.out R2.out HQ.out.1 HQ.out.2.1).mono ?_
      rintro e w4 ⟨rfl, hbl⟩
      replace R1 := Lib.hid (R1.out.below hbl)
      replace R2 := Lib.hid (R2.out.below hbl)
      replace R3 := Lib.hid (R3.out.below hbl)
      replace R4 := Lib.hid (R4.out.below hbl)
      replace Rx := Lib.hid (Rx.out.below hbl)
      replace HNx := Lib.hid (HNx.out.below hbl)
      replace Ry := Lib.hid (Ry.out.below hbl)
      replace HNy := Lib.hid (HNy.out.below hbl)
      replace CX := Lib.hid (CX.out.below hbl CX.out.lt)
      replace CY := Lib.hid (CY.out.below hbl CY.out.lt)
      replace VX := Lib.hid (VX.out.below hbl VX.out.lt)
      replace HW := Lib.hid (bel_trans HW.out hbl); clear hbl
      clear CX0 CX1 CX2 CY0 CY1 CY2 VX0 VX1 VX2
      have CX0 : w4.cell? ⟨w.heap.size, 0, none⟩ = some (.bool s) := CX.out.cell 0
      have CX1 : w4.cell? ⟨w.heap.size, 1, none⟩ = some (.slice A (limbs n).length c) := CX.out.cell 1
      have CX2 : w4.cell? ⟨w.heap.size, 2, none⟩ = some (.slice B (limbs d0).length d) := CX.out.cell 2
      have CY0 : w4.cell? ⟨w.heap.size + 1, 0, none⟩ = some (.bool s') := CY.out.cell 0
      have CY1 : w4.cell? ⟨w.heap.size + 1, 1, none⟩ = some (.slice A' 0 c') := CY.out.cell 1
      have CY2 : w4.cell? ⟨w.heap.size + 1, 2, none⟩ = some (.slice B' ys'.length d') := CY.out.cell 2
      have VX0 : w4.cell? ⟨w1.heap.size, 0, none⟩ = some (.bool false) := VX.out.cell 0
      have VX1 : w4.cell? ⟨w1.heap.size, 1, none⟩ = some (.slice Ax 0 cx) := VX.out.cell 1
      have VX2 : w4.cell? ⟨w1.heap.size, 2, none⟩ = some (.slice Ay 0 cy) := VX.out.cell 2
      go_wp2_with fail
      refine (reft_any s n d0 false _ (Nat.le_trans (dec_len HQ.out.1) (by decide)) (Nat.le_trans (dec_len HQ.out.2.1) (by decide))).mono ?_
      rintro e w5 ⟨rfl, hbl⟩
      replace R1 := Lib.hid (R1.out.below hbl)
      replace R2 := Lib.hid (R2.out.below hbl)
      replace R3 := Lib.hid (R3.out.below hbl)
      replace R4 := Lib.hid (R4.out.below hbl)
      replace Rx := Lib.hid (Rx.out.below hbl)
      replace HNx := Lib.hid (HNx.out.below hbl)
      replace Ry := Lib.hid (Ry.out.below hbl)
      replace HNy := Lib.hid (HNy.out.below hbl)
      replace CX := Lib.hid (CX.out.below hbl CX.out.lt)
      replace CY := Lib.hid (CY.out.below hbl CY.out.lt)
      replace VX := Lib.hid (VX.out.below hbl VX.out.lt)
      replace HW := Lib.hid (bel_trans HW.out hbl); clear hbl
      clear CX0 CX1 CX2 CY0 CY1 CY2 VX0 VX1 VX2
      have CX0 : w5.cell? ⟨w.heap.size, 0, none⟩ = some (.bool s) := CX.out.cell 0
      have CX1 : w5.cell? ⟨w.heap.size, 1, none⟩ = some (.slice A (limbs n).length c) := CX.out.cell 1
      have CX2 : w5.cell? ⟨w.heap.size, 2, none⟩ = some (.slice B (limbs d0).length d) := CX.out.cell 2
      have CY0 : w5.cell? ⟨w.heap.size + 1, 0, none⟩ = some (.bool s') := CY.out.cell 0
      have CY1 : w5.cell? ⟨w.heap.size + 1, 1, none⟩ = some (.slice A' 0 c') := CY.out.cell 1
      have CY2 : w5.cell? ⟨w.heap.size + 1, 2, none⟩ = some (.slice B' ys'.length d') := CY.out.cell 2
      have VX0 : w5.cell? ⟨w1.heap.size, 0, none⟩ = some (.bool false) := VX.out.cell 0
      have VX1 : w5.cell? ⟨w1.heap.size, 1, none⟩ = some (.slice Ax 0 cx) := VX.out.cell 1
      have VX2 : w5.cell? ⟨w1.heap.size, 2, none⟩ = some (.slice Ay 0 cy) := VX.out.cell 2
      go_wp2_with fail
      refine (refRatRight_is s A B c d (limbs n) (limbs d0) _ R1.out R2.out M.out.1 M.out.2.1 L18.out.1 L18.out.2.1 HR.out).mono ?_
      rintro e w6 ⟨rfl, hbl⟩
      replace R1 := Lib.hid (R1.out.below hbl)
      replace R2 := Lib.hid (R2.out.below hbl)
      replace R3 := Lib.hid (R3.out.below hbl)
      replace R4 := Lib.hid (R4.out.below hbl)
      replace Rx := Lib.hid (Rx.out.below hbl)
      replace HNx := Lib.hid (HNx.out.below hbl)
      replace Ry := Lib.hid (Ry.out.below hbl)
      replace HNy := Lib.hid (HNy.out.below hbl)
      replace CX := Lib.hid (CX.out.below hbl CX.out.lt)
      replace CY := Lib.hid (CY.out.below hbl CY.out.lt)
      replace VX := Lib.hid (VX.out.below hbl VX.out.lt)
      replace HW := Lib.hid (bel_trans HW.out hbl); clear hbl
      clear CX0 CX1 CX2 CY0 CY1 CY2 VX0 VX1 VX2
      have CX0 : w6.cell? ⟨w.heap.size, 0, none⟩ = some (.bool s) := CX.out.cell 0
      have CX1 : w6.cell? ⟨w.heap.size, 1, none⟩ = some (.slice A (limbs n).length c) := CX.out.cell 1
      have CX2 : w6.cell? ⟨w.heap.size, 2, none⟩ = some (.slice B (limbs d0).length d) := CX.out.cell 2
      have CY0 : w6.cell? ⟨w.heap.size + 1, 0, none⟩ = some (.bool s') := CY.out.cell 0
      have CY1 : w6.cell? ⟨w.heap.size + 1, 1, none⟩ = some (.slice A' 0 c') := CY.out.cell 1
      have CY2 : w6.cell? ⟨w.heap.size + 1, 2, none⟩ = some (.slice B' ys'.length d') := CY.out.cell 2
      have VX0 : w6.cell? ⟨w1.heap.size, 0, none⟩ = some (.bool false) := VX.out.cell 0
      have VX1 : w6.cell? ⟨w1.heap.size, 1, none⟩ = some (.slice Ax 0 cx) := VX.out.cell 1
      have VX2 : w6.cell? ⟨w1.heap.size, 2, none⟩ = some (.slice Ay 0 cy) := VX.out.cell 2
      go_wp2_with fail
      refine (refRight_bb A c (limbs n) _ R1.out L18.out.1).mono ?_
      rintro e w7 ⟨rfl, hbl⟩
      replace R1 := Lib.hid (R1.out.below hbl)
      replace R2 := Lib.hid (R2.out.below hbl)
      replace R3 := Lib.hid (R3.out.below hbl)
      replace R4 := Lib.hid (R4.out.below hbl)
      replace Rx := Lib.hid (Rx.out.below hbl)
      replace HNx := Lib.hid (HNx.out.below hbl)
      replace Ry := Lib.hid (Ry.out.below hbl)
      replace HNy := Lib.hid (HNy.out.below hbl)
      replace CX := Lib.hid (CX.out.below hbl CX.out.lt)
      replace CY := Lib.hid (CY.out.below hbl CY.out.lt)
      replace VX := Lib.hid (VX.out.below hbl VX.out.lt)
      replace HW := Lib.hid (bel_trans HW.out hbl); clear hbl
      clear CX0 CX1 CX2 CY0 CY1 CY2 VX0 VX1 VX2
      have CX0 : w7.cell? ⟨w.heap.size, 0, none⟩ = some (.bool s) := CX.out.cell 0
      have CX1 : w7.cell? ⟨w.heap.size, 1, none⟩ = some (.slice A (limbs n).length c) := CX.out.cell 1
      have CX2 : w7.cell? ⟨w.heap.size, 2, none⟩ = some (.slice B (limbs d0).length d) := CX.out.cell 2
      have CY0 : w7.cell? ⟨w.heap.size + 1, 0, none⟩ = some (.bool s') := CY.out.cell 0
      have CY1 : w7.cell? ⟨w.heap.size + 1, 1, none⟩ = some (.slice A' 0 c') := CY.out.cell 1
      have CY2 : w7.cell? ⟨w.heap.size + 1, 2, none⟩ = some (.slice B' ys'.length d') := CY.out.cell 2
      have VX0 : w7.cell? ⟨w1.heap.size, 0, none⟩ = some (.bool false) := VX.out.cell 0
      have VX1 : w7.cell? ⟨w1.heap.size, 1, none⟩ = some (.slice Ax 0 cx) := VX.out.cell 1
      have VX2 : w7.cell? ⟨w1.heap.size, 2, none⟩ = some (.slice Ay 0 cy) := VX.out.cell 2
      rw [rightL_limbs HX.out]
      go_wp2_with fail
      refine (refRight_bb A' c' ([] : List Nat) _ R3.out L18.out.2.2.1).mono ?_
      rintro e w8 ⟨rfl, hbl⟩
      replace R1 := Lib.hid (R1.out.below hbl)
      replace R2 := Lib.hid (R2.out.below hbl)
      replace R3 := Lib.hid (R3.out.below hbl)
      replace R4 := Lib.hid (R4.out.below hbl)
      replace Rx := Lib.hid (Rx.out.below hbl)
      replace HNx := Lib.hid (HNx.out.below hbl)
      replace Ry := Lib.hid (Ry.out.below hbl)
      replace HNy := Lib.hid (HNy.out.below hbl)
      replace CX := Lib.hid (CX.out.below hbl CX.out.lt)
      replace CY := Lib.hid (CY.out.below hbl CY.out.lt)
      replace VX := Lib.hid (VX.out.below hbl VX.out.lt)
      replace HW := Lib.hid (bel_trans HW.out hbl); clear hbl
      clear CX0 CX1 CX2 CY0 CY1 CY2 VX0 VX1 VX2
      have CX0 : w8.cell? ⟨w.heap.size, 0, none⟩ = some (.bool s) := CX.out.cell 0
      have CX1 : w8.cell? ⟨w.heap.size, 1, none⟩ = some (.slice A (limbs n).length c) := CX.out.cell 1
      have CX2 : w8.cell? ⟨w.heap.size, 2, none⟩ = some (.slice B (limbs d0).length d) := CX.out.cell 2
      have CY0 : w8.cell? ⟨w.heap.size + 1, 0, none⟩ = some (.bool s') := CY.out.cell 0
      have CY1 : w8.cell? ⟨w.heap.size + 1, 1, none⟩ = some (.slice A' 0 c') := CY.out.cell 1
      have CY2 : w8.cell? ⟨w.heap.size + 1, 2, none⟩ = some (.slice B' ys'.length d') := CY.out.cell 2
      have VX0 : w8.cell? ⟨w1.heap.size, 0, none⟩ = some (.bool false) := VX.out.cell 0
      have VX1 : w8.cell? ⟨w1.heap.size, 1, none⟩ = some (.slice Ax 0 cx) := VX.out.cell 1
      have VX2 : w8.cell? ⟨w1.heap.size, 2, none⟩ = some (.slice Ay 0 cy) := VX.out.cell 2
      rw [show rightL [] = true from rfl]
      go_wp2_with fail
      refine (same_none Ax Ay cx cy _).mono ?_
      rintro e w9 ⟨rfl, hbl⟩
      replace R1 := Lib.hid (R1.out.below hbl)
      replace R2 := Lib.hid (R2.out.below hbl)
      replace R3 := Lib.hid (R3.out.below hbl)
      replace R4 := Lib.hid (R4.out.below hbl)
      replace Rx := Lib.hid (Rx.out.below hbl)
      replace HNx := Lib.hid (HNx.out.below hbl)
      replace Ry := Lib.hid (Ry.out.below hbl)
      replace HNy := Lib.hid (HNy.out.below hbl)
      replace CX := Lib.hid (CX.out.below hbl CX.out.lt)
      replace CY := Lib.hid (CY.out.below hbl CY.out.lt)
      replace VX := Lib.hid (VX.out.below hbl VX.out.lt)
      replace HW := Lib.hid (bel_trans HW.out hbl); clear hbl
      clear CX0 CX1 CX2 CY0 CY1 CY2 VX0 VX1 VX2
      have CX0 : w9.cell? ⟨w.heap.size, 0, none⟩ = some (.bool s) := CX.out.cell 0
      have CX1 : w9.cell? ⟨w.heap.size, 1, none⟩ = some (.slice A (limbs n).length c) := CX.out.cell 1
      have CX2 : w9.cell? ⟨w.heap.size, 2, none⟩ = some (.slice B (limbs d0).length d) := CX.out.cell 2
      have CY0 : w9.cell? ⟨w.heap.size + 1, 0, none⟩ = some (.bool s') := CY.out.cell 0
      have CY1 : w9.cell? ⟨w.heap.size + 1, 1, none⟩ = some (.slice A' 0 c') := CY.out.cell 1
      have CY2 : w9.cell? ⟨w.heap.size + 1, 2, none⟩ = some (.slice B' ys'.length d') := CY.out.cell 2
      have VX0 : w9.cell? ⟨w1.heap.size, 0, none⟩ = some (.bool false) := VX.out.cell 0
      have VX1 : w9.cell? ⟨w1.heap.size, 1, none⟩ = some (.slice Ax 0 cx) := VX.out.cell 1
      have VX2 : w9.cell? ⟨w1.heap.size, 2, none⟩ = some (.slice Ay 0 cy) := VX.out.cell 2
      go_wp2
      go_ret
      exact ⟨rfl, HW.out⟩

set_option maxRecDepth 100000 in
set_option maxHeartbeats 1000000 in
theorem makes_r_ok (s s' : Bool) (A B A' B' : Option Addr) (c d c' d' : Nat) (x0 y0 x0' y0' : List Nat) (n d0 : Nat) (m : Nat) (ys' : List Nat) (q : Q) (neg : Bool) (w : World) (h1 : RdL w A x0) (h2 : RdL w B y0) (h3 : RdL w A' x0') (h4 : RdL w B' y0') (k1 : x0.length ≤ c) (k2 : y0.length ≤ d) (k3 : x0'.length ≤ c') (k4 : y0'.length ≤ d') (m1 : Lim x0) (m2 : Lim y0) (m3 : Lim x0') (m4 : Lim y0') (hn : n < Top) (hd : d0 < Top) (hq : QR ⟨s, n, d0⟩) (hm : m < Top) (hm0 : m ≠ 0) (hqq : redQ neg n m = q) (e1 : few x0 = (limbs n)) (e2 : few y0 = (limbs d0)) (e3 : few x0' = (limbs m)) (e4 : few y0' = ys') :
    Calls Try.prog 4 #[.agg #[.bool s, .slice A x0.length c, .slice B y0.length d], .agg #[.bool s', .slice A' x0'.length c', .slice B' y0'.length d'], .bool neg] w (RetT w) := by
  have HR := Lib.hid ((rightB_q (s := s) hn hd).2 hq)
  have HQ := Lib.hid (And.intro hn (And.intro hd hq)); clear hd hq
  have HX := Lib.hid hn; clear hn
  have HM := Lib.hid (And.intro hm (And.intro hm0 hqq))
  have hz2 : ¬ ((limbs m).length : Int) = 0 := mt limbs_len0.1 hm0
  have hz : (((limbs m).length : Int) == 0) = false := by simpa using hz2
  clear hm hm0 hqq
  have HF := Lib.hid (redQ_fit HX.out HM.out.1 HM.out.2.1 HM.out.2.2)
  have R1 := Lib.hid (show RdL w A (limbs n) by rw [← e1]; exact h1.take 18); clear h1
  have R2 := Lib.hid (show RdL w B (limbs d0) by rw [← e2]; exact h2.take 18); clear h2
  have R3 := Lib.hid (show RdL w A' (limbs m) by rw [← e3]; exact h3.take 18); clear h3
  have R4 := Lib.hid (show RdL w B' ys' by rw [← e4]; exact h4.take 18); clear h4
  have L18 := Lib.hid (show (limbs n).length ≤ 18 ∧ (limbs d0).length ≤ 18 ∧ (limbs m).length ≤ 18 ∧ ys'.length ≤ 18 by rw [← e1, ← e2, ← e3, ← e4]; exact ⟨few_le _, few_le _, few_le _, few_le _⟩)
  have KC := Lib.hid (show (limbs n).length ≤ c ∧ (limbs d0).length ≤ d ∧ (limbs m).length ≤ c' ∧ ys'.length ≤ d' by rw [← e1, ← e2, ← e3, ← e4]; exact ⟨Nat.le_trans (few_short _) k1, Nat.le_trans (few_short _) k2, Nat.le_trans (few_short _) k3, Nat.le_trans (few_short _) k4⟩)
  have M := Lib.hid (show Lim (limbs n) ∧ Lim (limbs d0) ∧ Lim (limbs m) ∧ Lim ys' by rw [← e1, ← e2, ← e3, ← e4]; exact ⟨few_lim m1, few_lim m2, few_lim m3, few_lim m4⟩); clear m1 m2 m3 m4
  have F := Lib.hid (And.intro (And.intro k1 (And.intro k2 (And.intro e1 e2))) (And.intro k3 (And.intro k4 (And.intro e3 e4)))); clear k1 k2 k3 k4 e1 e2 e3 e4
  obtain ⟨wa, hwa⟩ : ∃ wa, wa = (w.alloc (.cells #[.bool s, .slice A x0.length c, .slice B y0.length d] 25)).alloc (.cells #[.bool s', .slice A' x0'.length c', .slice B' y0'.length d'] 25) := ⟨_, rfl⟩
  have hbl : Below w.heap.size w wa := by rw [hwa]; exact bel_alloc (bel_alloc (bel_refl _) _) _
  have CX : Blk wa (w.heap.size) 25 #[.bool s, .slice A x0.length c, .slice B y0.length d] := by
    have hz := Blk.new (w) 25 #[.bool s, .slice A x0.length c, .slice B y0.length d]
    rw [hwa]
    exact (hz.alloc _)
  have CY : Blk wa (w.heap.size + 1) 25 #[.bool s', .slice A' x0'.length c', .slice B' y0'.length d'] := by
    have hz := Blk.new (w.alloc (.cells #[.bool s, .slice A x0.length c, .slice B y0.length d] 25)) 25 #[.bool s', .slice A' x0'.length c', .slice B' y0'.length d']
    rw [World.size_alloc] at hz
    rw [hwa]
    exact hz
  replace R1 := Lib.hid (R1.out.below hbl)
  replace R2 := Lib.hid (R2.out.below hbl)
  replace R3 := Lib.hid (R3.out.below hbl)
  replace R4 := Lib.hid (R4.out.below hbl)
  have HW := Lib.hid hbl; clear hbl
  replace CX := Lib.hid CX
  replace CY := Lib.hid CY
  go_enter Try.func4, Try.ntmps4
  go_wp2_with fail
  rw [← hwa]
  clear hwa
  refine wp_region_typed 4 (TOf [VIs (.agg #[.bool s, .slice A x0.length c, .slice B y0.length d]),
      VIs (.agg #[.bool s, .slice A (limbs n).length c, .slice B (limbs d0).length d]),
      VIs (.agg #[.bool s', .slice A' x0'.length c', .slice B' y0'.length d']),
      VIs (.agg #[.bool s', .slice A' (limbs m).length c', .slice B' ys'.length d'])]) (by kernel_rfl) (by kernel_rfl) (by kernel_rfl) (LiftAll.at_ (.cons (VIs.lift _) (.cons (VIs.lift _) (.cons (VIs.lift _) (.cons (VIs.lift _) .nil))))) (steps_all (steps_cons ?_ (steps_cons ?_ (steps_cons ?_ (steps_cons ?_ steps_zero))))) ?fin
  · intro a0 w9 K9 hF hB hK hC
    have b3 := hF.base (k := 3) (v := .pointer (some ⟨w.heap.size, 0, none⟩)) (by kernel_rfl) rfl
    have x90 : w9.cell? ⟨w.heap.size, 0, none⟩ = some (.bool s) := (CX.out.below hB CX.out.lt).cell 0
    have x91 : w9.cell? ⟨w.heap.size, 1, none⟩ = some (.slice A x0.length c) := (CX.out.below hB CX.out.lt).cell 1
    have x92 : w9.cell? ⟨w.heap.size, 2, none⟩ = some (.slice B y0.length d) := (CX.out.below hB CX.out.lt).cell 2
    clear hF hB hK
    go_simp
    exact hC _ _ (bel_refl _) fun _ _ => rfl
  · intro a0 w9 K9 hF hB hK hC
    obtain ⟨v11, e11, z11⟩ := dep hK 0 (g := .data) (j := 0) (k := 11) rfl rfl rfl
    have z11 : v11 = .agg #[.bool s, .slice A x0.length c, .slice B y0.length d] := z11
    subst z11
    have HB9 := Lib.hid hB
    clear hF hB hK
    go_simp
    refine (fewQ_is s A B c d x0 y0 (limbs n) (limbs d0) _ F.out.1.1 F.out.1.2.1 F.out.1.2.2.1 F.out.1.2.2.2).mono ?_
    rintro e w7 ⟨rfl, hbl⟩
    exact hC _ _ hbl fun _ _ => rfl
  · intro a0 w9 K9 hF hB hK hC
    have b4 := hF.base (k := 4) (v := .pointer (some ⟨w.heap.size + 1, 0, none⟩)) (by kernel_rfl) rfl
    have x90 : w9.cell? ⟨w.heap.size + 1, 0, none⟩ = some (.bool s') := (CY.out.below hB CY.out.lt).cell 0
    have x91 : w9.cell? ⟨w.heap.size + 1, 1, none⟩ = some (.slice A' x0'.length c') := (CY.out.below hB CY.out.lt).cell 1
    have x92 : w9.cell? ⟨w.heap.size + 1, 2, none⟩ = some (.slice B' y0'.length d') := (CY.out.below hB CY.out.lt).cell 2
    clear hF hB hK
    go_simp
    exact hC _ _ (bel_refl _) fun _ _ => rfl
  · intro a0 w9 K9 hF hB hK hC
    obtain ⟨v13, e13, z13⟩ := dep hK 0 (g := .data) (j := 2) (k := 13) rfl rfl rfl
    have z13 : v13 = .agg #[.bool s', .slice A' x0'.length c', .slice B' y0'.length d'] := z13
    subst z13
    have HB9 := Lib.hid hB
    clear hF hB hK
    go_simp
    refine (fewQ_is s' A' B' c' d' x0' y0' (limbs m) ys' _ F.out.2.1 F.out.2.2.1 F.out.2.2.2.1 F.out.2.2.2.2).mono ?_
    rintro e w7 ⟨rfl, hbl⟩
    exact hC _ _ hbl fun _ _ => rfl
  case fin =>
    intro a0 w9 hF hB hK
    have b3 := hF.base (k := 3) (v := .pointer (some ⟨w.heap.size, 0, none⟩)) (by kernel_rfl) rfl
    have b4 := hF.base (k := 4) (v := .pointer (some ⟨w.heap.size + 1, 0, none⟩)) (by kernel_rfl) rfl
    have b2 := hF.base (k := 2) (v := .bool neg) (by kernel_rfl) rfl
    have hsz := hF.size
    have hdf := hF.defers
    clear hF
    obtain ⟨v12, e12, z12⟩ := known hK 1 (k := 12) (by decide) rfl
    have z12 : v12 = .agg #[.bool s, .slice A (limbs n).length c, .slice B (limbs d0).length d] := z12
    subst z12
    obtain ⟨v14, e14, z14⟩ := known hK 3 (k := 14) (by decide) rfl
    have z14 : v14 = .agg #[.bool s', .slice A' (limbs m).length c', .slice B' ys'.length d'] := z14
    subst z14
    clear hK
    obtain ⟨⟨l0⟩, df⟩ := a0
    have hs0 : l0.length = 119 := hsz
    clear hsz
    replace hdf : df = _ := hdf
    subst hdf
    obtain ⟨u, rfl⟩ := lits_119 hs0
    clear hs0
    have q3 : u 3 = _ := Option.some.inj b3
    clear b3
    have q4 : u 4 = _ := Option.some.inj b4
    clear b4
    have q2 : u 2 = _ := Option.some.inj b2
    clear b2
    have q12 : u 12 = _ := Option.some.inj e12
    clear e12
    have q14 : u 14 = _ := Option.some.inj e14
    clear e14
    rw [q3, q4, q2, q12, q14]
    clear q3 q4 q2 q12 q14
    have hbl := hB; clear hB
    replace R1 := Lib.hid (R1.out.below hbl)
    replace R2 := Lib.hid (R2.out.below hbl)
    replace R3 := Lib.hid (R3.out.below hbl)
    replace R4 := Lib.hid (R4.out.below hbl)
    replace CX := Lib.hid (CX.out.below hbl CX.out.lt)
    replace CY := Lib.hid (CY.out.below hbl CY.out.lt)
    replace HW := Lib.hid (bel_trans HW.out hbl); clear hbl
    simp only [List.drop_succ_cons, List.drop_zero]
    have pd0 := CX.out.cell 0
    have pf0 := CX.out.frozen 0
    have pd1 := CX.out.cell 1
    have pf1 := CX.out.frozen 1
    have pd2 := CX.out.cell 2
    have pf2 := CX.out.frozen 2
    have qd0 := CY.out.cell 0
    have qf0 := CY.out.frozen 0
    have qd1 := CY.out.cell 1
    have qf1 := CY.out.frozen 1
    have qd2 := CY.out.cell 2
    have qf2 := CY.out.frozen 2
    go_upto_region 2 with fail
    clear pd0 pf0 pd1 pf1 pd2 pf2 qd0 qf0 qd1 qf1 qd2 qf2
    obtain ⟨wf, hwf⟩ : ∃ wf, wf = ((((((w9.setCell ⟨w.heap.size, 0, none⟩ (.bool s)).setCell ⟨w.heap.size, 1, none⟩ (.slice A (limbs n).length c)).setCell ⟨w.heap.size, 2, none⟩ (.slice B (limbs d0).length d)).setCell ⟨w.heap.size + 1, 0, none⟩ (.bool s')).setCell ⟨w.heap.size + 1, 1, none⟩ (.slice A' (limbs m).length c')).setCell ⟨w.heap.size + 1, 2, none⟩ (.slice B' ys'.length d')) := ⟨_, rfl⟩
    rw [← hwf]
    replace R1 := Lib.hid (show RdL wf _ _ by rw [hwf]; exact RdL.set3 ((((CY.out).far (p := ⟨w.heap.size, 0, none⟩) (by simp) _).far (p := ⟨w.heap.size, 1, none⟩) (by simp) _).far (p := ⟨w.heap.size, 2, none⟩) (by simp) _) (RdL.set3 (CX.out) (R1.out) _ _ _) _ _ _)
    replace R2 := Lib.hid (show RdL wf _ _ by rw [hwf]; exact RdL.set3 ((((CY.out).far (p := ⟨w.heap.size, 0, none⟩) (by simp) _).far (p := ⟨w.heap.size, 1, none⟩) (by simp) _).far (p := ⟨w.heap.size, 2, none⟩) (by simp) _) (RdL.set3 (CX.out) (R2.out) _ _ _) _ _ _)
    replace R3 := Lib.hid (show RdL wf _ _ by rw [hwf]; exact RdL.set3 ((((CY.out).far (p := ⟨w.heap.size, 0, none⟩) (by simp) _).far (p := ⟨w.heap.size, 1, none⟩) (by simp) _).far (p := ⟨w.heap.size, 2, none⟩) (by simp) _) (RdL.set3 (CX.out) (R3.out) _ _ _) _ _ _)
    replace R4 := Lib.hid (show RdL wf _ _ by rw [hwf]; exact RdL.set3 ((((CY.out).far (p := ⟨w.heap.size, 0, none⟩) (by simp) _).far (p := ⟨w.heap.size, 1, none⟩) (by simp) _).far (p := ⟨w.heap.size, 2, none⟩) (by simp) _) (RdL.set3 (CX.out) (R4.out) _ _ _) _ _ _)
    have CX_ := Lib.hid (show Blk wf (w.heap.size) 25 #[.bool s, .slice A (limbs n).length c, .slice B (limbs d0).length d] by rw [hwf]; exact ((((((CX.out).put 0 (.bool s)).put 1 (.slice A (limbs n).length c)).put 2 (.slice B (limbs d0).length d)).far (p := ⟨w.heap.size + 1, 0, none⟩) (by simp) _).far (p := ⟨w.heap.size + 1, 1, none⟩) (by simp) _).far (p := ⟨w.heap.size + 1, 2, none⟩) (by simp) _)
    have CY_ := Lib.hid (show Blk wf (w.heap.size + 1) 25 #[.bool s', .slice A' (limbs m).length c', .slice B' ys'.length d'] by rw [hwf]; exact ((((((CY.out).far (p := ⟨w.heap.size, 0, none⟩) (by simp) _).far (p := ⟨w.heap.size, 1, none⟩) (by simp) _).far (p := ⟨w.heap.size, 2, none⟩) (by simp) _).put 0 (.bool s')).put 1 (.slice A' (limbs m).length c')).put 2 (.slice B' ys'.length d'))
    replace CX := CX_; clear CX_
    replace CY := CY_; clear CY_
    replace HW := Lib.hid (show Below w.heap.size w wf by rw [hwf]; exact bel_set (p := ⟨w.heap.size + 1, 2, none⟩) (bel_set (p := ⟨w.heap.size + 1, 1, none⟩) (bel_set (p := ⟨w.heap.size + 1, 0, none⟩) (bel_set (p := ⟨w.heap.size, 2, none⟩) (bel_set (p := ⟨w.heap.size, 1, none⟩) (bel_set (p := ⟨w.heap.size, 0, none⟩) (HW.out) (by show w.heap.size ≤ w.heap.size; omega) _) (by show w.heap.size ≤ w.heap.size; omega) _) (by show w.heap.size ≤ w.heap.size; omega) _) (by show w.heap.size ≤ w.heap.size + 1; omega) _) (by show w.heap.size ≤ w.heap.size + 1; omega) _) (by show w.heap.size ≤ w.heap.size + 1; omega) _)
    clear hwf
    have CX0 : wf.cell? ⟨w.heap.size, 0, none⟩ = some (.bool s) := CX.out.cell 0
    have CX1 : wf.cell? ⟨w.heap.size, 1, none⟩ = some (.slice A (limbs n).length c) := CX.out.cell 1
    have CX2 : wf.cell? ⟨w.heap.size, 2, none⟩ = some (.slice B (limbs d0).length d) := CX.out.cell 2
    have CY0 : wf.cell? ⟨w.heap.size + 1, 0, none⟩ = some (.bool s') := CY.out.cell 0
    have CY1 : wf.cell? ⟨w.heap.size + 1, 1, none⟩ = some (.slice A' (limbs m).length c') := CY.out.cell 1
    have CY2 : wf.cell? ⟨w.heap.size + 1, 2, none⟩ = some (.slice B' ys'.length d') := CY.out.cell 2
    go_wp2_with fail
    refine (make_ok neg A A' c c' n m _ R1.out R3.out KC.out.1 KC.out.2.2.1 HX.out HM.out.1 HM.out.2.1 HM.out.2.2).mono ?_
    rintro e w1 ⟨vx, vy, rfl, hnx, hny, hbl⟩
    replace R1 := Lib.hid (R1.out.below hbl)
    replace R2 := Lib.hid (R2.out.below hbl)
    replace R3 := Lib.hid (R3.out.below hbl)
    replace R4 := Lib.hid (R4.out.below hbl)
    replace CX := Lib.hid (CX.out.below hbl CX.out.lt)
    replace CY := Lib.hid (CY.out.below hbl CY.out.lt)
    replace HW := Lib.hid (bel_trans HW.out hbl); clear hbl
    clear CX0 CX1 CX2 CY0 CY1 CY2
    have CX0 : w1.cell? ⟨w.heap.size, 0, none⟩ = some (.bool s) := CX.out.cell 0
    have CX1 : w1.cell? ⟨w.heap.size, 1, none⟩ = some (.slice A (limbs n).length c) := CX.out.cell 1
    have CX2 : w1.cell? ⟨w.heap.size, 2, none⟩ = some (.slice B (limbs d0).length d) := CX.out.cell 2
    have CY0 : w1.cell? ⟨w.heap.size + 1, 0, none⟩ = some (.bool s') := CY.out.cell 0
    have CY1 : w1.cell? ⟨w.heap.size + 1, 1, none⟩ = some (.slice A' (limbs m).length c') := CY.out.cell 1
    have CY2 : w1.cell? ⟨w.heap.size + 1, 2, none⟩ = some (.slice B' ys'.length d') := CY.out.cell 2
    have HNx := Lib.hid hnx; clear hnx
    obtain ⟨Ax, cx, rfl, hcx, hrx⟩ := HNx.out.row
    have Rx := Lib.hid hrx; have HCx := Lib.hid hcx; clear hrx hcx
    have HNy := Lib.hid hny; clear hny
    obtain ⟨Ay, cy, rfl, hcy, hry⟩ := HNy.out.row
    have Ry := Lib.hid hry; have HCy := Lib.hid hcy; clear hry hcy
    go_upto_region 3 with fail
    obtain ⟨wm, hwm⟩ : ∃ wm, wm = w1.alloc (.cells #[.bool q.s, .slice Ax (limbs q.n).length cx, .slice Ay (limbs q.d).length cy] 25) := ⟨_, rfl⟩
    rw [← hwm]
    have hbl : Below w1.heap.size w1 wm := by rw [hwm]; exact bel_alloc (bel_refl _) _
    have VX : Blk wm (w1.heap.size) 25 #[.bool q.s, .slice Ax (limbs q.n).length cx, .slice Ay (limbs q.d).length cy] := by
      have hz := Blk.new (w1) 25 #[.bool q.s, .slice Ax (limbs q.n).length cx, .slice Ay (limbs q.d).length cy]
      rw [hwm]
      exact hz
    clear hwm
    replace R1 := Lib.hid (R1.out.below hbl)
    replace R2 := Lib.hid (R2.out.below hbl)
    replace R3 := Lib.hid (R3.out.below hbl)
    replace R4 := Lib.hid (R4.out.below hbl)
    replace Rx := Lib.hid (Rx.out.below hbl)
    replace HNx := Lib.hid (HNx.out.below hbl)
    replace Ry := Lib.hid (Ry.out.below hbl)
    replace HNy := Lib.hid (HNy.out.below hbl)
    replace CX := Lib.hid (CX.out.below hbl CX.out.lt)
    replace CY := Lib.hid (CY.out.below hbl CY.out.lt)
    replace HW := Lib.hid (bel_trans HW.out hbl); clear hbl
    replace VX := Lib.hid VX
    clear CX0 CX1 CX2 CY0 CY1 CY2
    have CX0 : wm.cell? ⟨w.heap.size, 0, none⟩ = some (.bool s) := CX.out.cell 0
    have CX1 : wm.cell? ⟨w.heap.size, 1, none⟩ = some (.slice A (limbs n).length c) := CX.out.cell 1
    have CX2 : wm.cell? ⟨w.heap.size, 2, none⟩ = some (.slice B (limbs d0).length d) := CX.out.cell 2
    have CY0 : wm.cell? ⟨w.heap.size + 1, 0, none⟩ = some (.bool s') := CY.out.cell 0
    have CY1 : wm.cell? ⟨w.heap.size + 1, 1, none⟩ = some (.slice A' (limbs m).length c') := CY.out.cell 1
    have CY2 : wm.cell? ⟨w.heap.size + 1, 2, none⟩ = some (.slice B' ys'.length d') := CY.out.cell 2
    have VX0 : wm.cell? ⟨w1.heap.size, 0, none⟩ = some (.bool q.s) := VX.out.cell 0
    have VX1 : wm.cell? ⟨w1.heap.size, 1, none⟩ = some (.slice Ax (limbs q.n).length cx) := VX.out.cell 1
    have VX2 : wm.cell? ⟨w1.heap.size, 2, none⟩ = some (.slice Ay (limbs q.d).length cy) := VX.out.cell 2
    go_wp2_with fail
    refine (rtext_q ⟨s, n, d0⟩ A B c d _ R1.out R2.out KC.out.1 KC.out.2.1 HQ.out.1 HQ.out.2.1 HQ.out.2.2).mono ?_
    rintro e w2 ⟨rfl, hbl⟩
    replace R1 := Lib.hid (R1.out.below hbl)
    replace R2 := Lib.hid (R2.out.below hbl)
    replace R3 := Lib.hid (R3.out.below hbl)
    replace R4 := Lib.hid (R4.out.below hbl)
    replace Rx := Lib.hid (Rx.out.below hbl)
    replace HNx := Lib.hid (HNx.out.below hbl)
    replace Ry := Lib.hid (Ry.out.below hbl)
    replace HNy := Lib.hid (HNy.out.below hbl)
    replace CX := Lib.hid (CX.out.below hbl CX.out.lt)
    replace CY := Lib.hid (CY.out.below hbl CY.out.lt)
    replace VX := Lib.hid (VX.out.below hbl VX.out.lt)
    replace HW := Lib.hid (bel_trans HW.out hbl); clear hbl
    clear CX0 CX1 CX2 CY0 CY1 CY2 VX0 VX1 VX2
    have CX0 : w2.cell? ⟨w.heap.size, 0, none⟩ = some (.bool s) := CX.out.cell 0
    have CX1 : w2.cell? ⟨w.heap.size, 1, none⟩ = some (.slice A (limbs n).length c) := CX.out.cell 1
    have CX2 : w2.cell? ⟨w.heap.size, 2, none⟩ = some (.slice B (limbs d0).length d) := CX.out.cell 2
    have CY0 : w2.cell? ⟨w.heap.size + 1, 0, none⟩ = some (.bool s') := CY.out.cell 0
    have CY1 : w2.cell? ⟨w.heap.size + 1, 1, none⟩ = some (.slice A' (limbs m).length c') := CY.out.cell 1
    have CY2 : w2.cell? ⟨w.heap.size + 1, 2, none⟩ = some (.slice B' ys'.length d') := CY.out.cell 2
    have VX0 : w2.cell? ⟨w1.heap.size, 0, none⟩ = some (.bool q.s) := VX.out.cell 0
    have VX1 : w2.cell? ⟨w1.heap.size, 1, none⟩ = some (.slice Ax (limbs q.n).length cx) := VX.out.cell 1
    have VX2 : w2.cell? ⟨w1.heap.size, 2, none⟩ = some (.slice Ay (limbs q.d).length cy) := VX.out.cell 2
    go_wp2_with fail
    refine wp_region_typedG 24 (TOf [VIs (.agg #[.bool s, .slice A (limbs n).length c, .slice B (limbs d0).length d]),
        VIs (.bool true),
        VIs (.agg #[.bool s, .slice A (limbs n).length c, .slice B (limbs d0).length d]),
        VIs (.bool true),
        VIs (.bool false),
        VIs (.bool false),
        VIs (.agg #[.bool s, .slice A (limbs n).length c, .slice B (limbs d0).length d]),
        VIs (.agg #[.bool s', .slice A' (limbs m).length c', .slice B' ys'.length d']),
        VIs (.bool (likeB s s' (limbs n) (limbs d0) (limbs m) ys')),
        VIs (.agg #[.bool s, .slice A (limbs n).length c, .slice B (limbs d0).length d]),
        VIs (.agg #[.bool s', .slice A' (limbs m).length c', .slice B' ys'.length d']),
        VIs (.bool (likeB s s' (limbs n) (limbs d0) (limbs m) ys')),
        VIs (.bool false),
        VIs (.bool false),
        VIs (.bool false),
        VIs (.agg #[.bool s, .slice A (limbs n).length c, .slice B (limbs d0).length d]),
        VIs (.agg #[.bool s, .slice A (limbs n).length c, .slice B (limbs d0).length d]),
        VIs (.bool true),
        VIs (.bool false),
        VIs (.bool false),
        VIs (.bool false),
        VIs (.bool true),
        VIs (.bool false),
        VIs (.bool false)]) (by kernel_rfl) (by kernel_rfl) (by kernel_rfl) (LiftAll.at_ (.cons (VIs.lift _) (.cons (VIs.lift _) (.cons (VIs.lift _) (.cons (VIs.lift _) (.cons (VIs.lift _) (.cons (VIs.lift _) (.cons (VIs.lift _) (.cons (VIs.lift _) (.cons (VIs.lift _) (.cons (VIs.lift _) (.cons (VIs.lift _) (.cons (VIs.lift _) (.cons (VIs.lift _) (.cons (VIs.lift _) (.cons (VIs.lift _) (.cons (VIs.lift _) (.cons (VIs.lift _) (.cons (VIs.lift _) (.cons (VIs.lift _) (.cons (VIs.lift _) (.cons (VIs.lift _) (.cons (VIs.lift _) (.cons (VIs.lift _) (.cons (VIs.lift _) .nil))))))))))))))))))))))))) (stepsG_all (stepsG_cons ?_ (stepsG_cons ?_ (stepsG_cons ?_ (stepsG_cons ?_ (stepsG_cons ?_ (stepsG_cons ?_ (stepsG_cons ?_ (stepsG_cons ?_ (stepsG_cons ?_ (stepsG_cons ?_ (stepsG_cons ?_ (stepsG_cons ?_ (stepsG_cons ?_ (stepsG_cons ?_ (stepsG_cons ?_ (stepsG_cons ?_ (stepsG_cons ?_ (stepsG_cons ?_ (stepsG_cons ?_ (stepsG_cons ?_ (stepsG_cons ?_ (stepsG_cons ?_ (stepsG_cons ?_ (stepsG_cons ?_ stepsG_zero))))))))))))))))))))))))) ?fin
    · refine stepG_plain rfl ?_
      intro a0 w9 K9 hF hB hK hC
      have b3 := hF.base (k := 3) (v := .pointer (some ⟨w.heap.size, 0, none⟩)) (by kernel_rfl) rfl
      have x90 : w9.cell? ⟨w.heap.size, 0, none⟩ = some (.bool s) := (CX.out.below hB CX.out.lt).cell 0
      have x91 : w9.cell? ⟨w.heap.size, 1, none⟩ = some (.slice A (limbs n).length c) := (CX.out.below hB CX.out.lt).cell 1
      have x92 : w9.cell? ⟨w.heap.size, 2, none⟩ = some (.slice B (limbs d0).length d) := (CX.out.below hB CX.out.lt).cell 2
      clear hF hB hK
      go_simp
      exact hC _ _ (bel_refl _) fun _ _ => rfl
    · refine stepG_plain rfl ?_
      intro a0 w9 K9 hF hB hK hC
      obtain ⟨v29, e29, z29⟩ := dep hK 0 (g := .data) (j := 0) (k := 29) rfl rfl rfl
      have z29 : v29 = .agg #[.bool s, .slice A (limbs n).length c, .slice B (limbs d0).length d] := z29
      subst z29
      have HB9 := Lib.hid hB
      clear hF hB hK
      go_simp
      refine (ratRight_is s A B c d (limbs n) (limbs d0) _ (R1.out.below HB9.out) (R2.out.below HB9.out) M.out.1 M.out.2.1 L18.out.1 L18.out.2.1 KC.out.1 KC.out.2.1 HR.out).mono ?_
      rintro e w7 ⟨rfl, hbl⟩
      exact hC _ _ hbl fun _ _ => rfl
    · refine stepG_plain rfl ?_
      intro a0 w9 K9 hF hB hK hC
      have b3 := hF.base (k := 3) (v := .pointer (some ⟨w.heap.size, 0, none⟩)) (by kernel_rfl) rfl
      have x90 : w9.cell? ⟨w.heap.size, 0, none⟩ = some (.bool s) := (CX.out.below hB CX.out.lt).cell 0
      have x91 : w9.cell? ⟨w.heap.size, 1, none⟩ = some (.slice A (limbs n).length c) := (CX.out.below hB CX.out.lt).cell 1
      have x92 : w9.cell? ⟨w.heap.size, 2, none⟩ = some (.slice B (limbs d0).length d) := (CX.out.below hB CX.out.lt).cell 2
      clear hF hB hK
      go_simp
      exact hC _ _ (bel_refl _) fun _ _ => rfl
    · refine stepG_plain rfl ?_
      intro a0 w9 K9 hF hB hK hC
      obtain ⟨v31, e31, z31⟩ := dep hK 0 (g := .data) (j := 2) (k := 31) rfl rfl rfl
      have z31 : v31 = .agg #[.bool s, .slice A (limbs n).length c, .slice B (limbs d0).length d] := z31
      subst z31
      have HB9 := Lib.hid hB
      clear hF hB hK
      go_simp
      refine (refRatRight_is s A B c d (limbs n) (limbs d0) _ (R1.out.below HB9.out) (R2.out.below HB9.out) M.out.1 M.out.2.1 L18.out.1 L18.out.2.1 HR.out).mono ?_
      rintro e w7 ⟨rfl, hbl⟩
      exact hC _ _ hbl fun _ _ => rfl
    · refine stepG_plain rfl ?_
      intro a0 w9 K9 hF hB hK hC
      obtain ⟨v30, e30, z30⟩ := dep hK 0 (g := .data) (j := 1) (k := 30) rfl rfl rfl
      have z30 : v30 = .bool true := z30
      subst z30
      obtain ⟨v32, e32, z32⟩ := dep hK 1 (g := .data) (j := 3) (k := 32) rfl rfl rfl
      have z32 : v32 = .bool true := z32
      subst z32
      have HB9 := Lib.hid hB
      clear hF hB hK
      go_simp
      exact hC _ _ (bel_refl _) fun _ _ => rfl
    · refine stepG_plain rfl ?_
      intro a0 w9 K9 hF hB hK hC
      obtain ⟨v33, e33, z33⟩ := dep hK 0 (g := .data) (j := 4) (k := 33) rfl rfl rfl
      have z33 : v33 = .bool false := z33
      subst z33
      clear hF hB hK
      go_simp
      exact hC _ _ (bel_refl _) fun _ _ => rfl
    · intro a0 w9 K9 hF hB hK hC
      obtain ⟨vg, eg, zg⟩ := dep hK 0 (g := .guard) (j := 5) (k := 34) rfl rfl rfl
      have zg : vg = .bool false := zg
      subst zg
      refine guard_in (j := 5) (k := 34) (want := false) rfl rfl eg rfl ?_
      have b3 := hF.base (k := 3) (v := .pointer (some ⟨w.heap.size, 0, none⟩)) (by kernel_rfl) rfl
      have x90 : w9.cell? ⟨w.heap.size, 0, none⟩ = some (.bool s) := (CX.out.below hB CX.out.lt).cell 0
      have x91 : w9.cell? ⟨w.heap.size, 1, none⟩ = some (.slice A (limbs n).length c) := (CX.out.below hB CX.out.lt).cell 1
      have x92 : w9.cell? ⟨w.heap.size, 2, none⟩ = some (.slice B (limbs d0).length d) := (CX.out.below hB CX.out.lt).cell 2
      clear hF hB hK
      go_simp
      exact hC _ _ (bel_refl _) fun _ _ => rfl
    · intro a0 w9 K9 hF hB hK hC
      obtain ⟨vg, eg, zg⟩ := dep hK 0 (g := .guard) (j := 5) (k := 34) rfl rfl rfl
      have zg : vg = .bool false := zg
      subst zg
      refine guard_in (j := 5) (k := 34) (want := false) rfl rfl eg rfl ?_
      have b4 := hF.base (k := 4) (v := .pointer (some ⟨w.heap.size + 1, 0, none⟩)) (by kernel_rfl) rfl
      have x90 : w9.cell? ⟨w.heap.size + 1, 0, none⟩ = some (.bool s') := (CY.out.below hB CY.out.lt).cell 0
      have x91 : w9.cell? ⟨w.heap.size + 1, 1, none⟩ = some (.slice A' (limbs m).length c') := (CY.out.below hB CY.out.lt).cell 1
      have x92 : w9.cell? ⟨w.heap.size + 1, 2, none⟩ = some (.slice B' ys'.length d') := (CY.out.below hB CY.out.lt).cell 2
      clear hF hB hK
      go_simp
      exact hC _ _ (bel_refl _) fun _ _ => rfl
    · intro a0 w9 K9 hF hB hK hC
      obtain ⟨vg, eg, zg⟩ := dep hK 3 (g := .guard) (j := 5) (k := 34) rfl rfl rfl
      have zg : vg = .bool false := zg
      subst zg
      refine guard_in (j := 5) (k := 34) (want := false) rfl rfl eg rfl ?_
      obtain ⟨v35, e35, z35⟩ := dep hK 0 (g := .data) (j := 6) (k := 35) rfl rfl rfl
      have z35 : v35 = .agg #[.bool s, .slice A (limbs n).length c, .slice B (limbs d0).length d] := z35
      subst z35
      obtain ⟨v36, e36, z36⟩ := dep hK 1 (g := .data) (j := 7) (k := 36) rfl rfl rfl
      have z36 : v36 = .agg #[.bool s', .slice A' (limbs m).length c', .slice B' ys'.length d'] := z36
      subst z36
      have HB9 := Lib.hid hB
      clear hF hB hK
      go_simp
      refine (like_ok s s' A B A' B' c d c' d' (limbs n) (limbs d0) (limbs m) ys' _ (R1.out.below HB9.out) (R3.out.below HB9.out) L18.out.1 (R2.out.below HB9.out) (R4.out.below HB9.out) L18.out.2.1 rfl).mono ?_
      rintro e w7 ⟨rfl, hbl⟩
      exact hC _ _ hbl fun _ _ => rfl
    · intro a0 w9 K9 hF hB hK hC
      obtain ⟨vg, eg, zg⟩ := dep hK 0 (g := .guard) (j := 5) (k := 34) rfl rfl rfl
      have zg : vg = .bool false := zg
      subst zg
      refine guard_in (j := 5) (k := 34) (want := false) rfl rfl eg rfl ?_
      have b3 := hF.base (k := 3) (v := .pointer (some ⟨w.heap.size, 0, none⟩)) (by kernel_rfl) rfl
      have x90 : w9.cell? ⟨w.heap.size, 0, none⟩ = some (.bool s) := (CX.out.below hB CX.out.lt).cell 0
      have x91 : w9.cell? ⟨w.heap.size, 1, none⟩ = some (.slice A (limbs n).length c) := (CX.out.below hB CX.out.lt).cell 1
      have x92 : w9.cell? ⟨w.heap.size, 2, none⟩ = some (.slice B (limbs d0).length d) := (CX.out.below hB CX.out.lt).cell 2
      clear hF hB hK
      go_simp
      exact hC _ _ (bel_refl _) fun _ _ => rfl
    · intro a0 w9 K9 hF hB hK hC
      obtain ⟨vg, eg, zg⟩ := dep hK 0 (g := .guard) (j := 5) (k := 34) rfl rfl rfl
      have zg : vg = .bool false := zg
      subst zg
      refine guard_in (j := 5) (k := 34) (want := false) rfl rfl eg rfl ?_
      have b4 := hF.base (k := 4) (v := .pointer (some ⟨w.heap.size + 1, 0, none⟩)) (by kernel_rfl) rfl
      have x90 : w9.cell? ⟨w.heap.size + 1, 0, none⟩ = some (.bool s') := (CY.out.below hB CY.out.lt).cell 0
      have x91 : w9.cell? ⟨w.heap.size + 1, 1, none⟩ = some (.slice A' (limbs m).length c') := (CY.out.below hB CY.out.lt).cell 1
      have x92 : w9.cell? ⟨w.heap.size + 1, 2, none⟩ = some (.slice B' ys'.length d') := (CY.out.below hB CY.out.lt).cell 2
      clear hF hB hK
      go_simp
      exact hC _ _ (bel_refl _) fun _ _ => rfl
    · intro a0 w9 K9 hF hB hK hC
      obtain ⟨vg, eg, zg⟩ := dep hK 3 (g := .guard) (j := 5) (k := 34) rfl rfl rfl
      have zg : vg = .bool false := zg
      subst zg
      refine guard_in (j := 5) (k := 34) (want := false) rfl rfl eg rfl ?_
      obtain ⟨v38, e38, z38⟩ := dep hK 0 (g := .data) (j := 9) (k := 38) rfl rfl rfl
      have z38 : v38 = .agg #[.bool s, .slice A (limbs n).length c, .slice B (limbs d0).length d] := z38
      subst z38
      obtain ⟨v39, e39, z39⟩ := dep hK 1 (g := .data) (j := 10) (k := 39) rfl rfl rfl
      have z39 : v39 = .agg #[.bool s', .slice A' (limbs m).length c', .slice B' ys'.length d'] := z39
      subst z39
      have HB9 := Lib.hid hB
      clear hF hB hK
      go_simp
      refine (refSame_ok s s' A B A' B' c d c' d' (limbs n) (limbs d0) (limbs m) ys' _ (R1.out.below HB9.out) (R3.out.below HB9.out) L18.out.1 (R2.out.below HB9.out) (R4.out.below HB9.out) L18.out.2.1 rfl).mono ?_
      rintro e w7 ⟨rfl, hbl⟩
      exact hC _ _ hbl fun _ _ => rfl
    · intro a0 w9 K9 hF hB hK hC
      obtain ⟨vg, eg, zg⟩ := dep hK 2 (g := .guard) (j := 5) (k := 34) rfl rfl rfl
      have zg : vg = .bool false := zg
      subst zg
      refine guard_in (j := 5) (k := 34) (want := false) rfl rfl eg rfl ?_
      obtain ⟨v37, e37, z37⟩ := dep hK 0 (g := .data) (j := 8) (k := 37) rfl rfl rfl
      have z37 : v37 = .bool (likeB s s' (limbs n) (limbs d0) (limbs m) ys') := z37
      subst z37
      obtain ⟨v40, e40, z40⟩ := dep hK 1 (g := .data) (j := 11) (k := 40) rfl rfl rfl
      have z40 : v40 = .bool (likeB s s' (limbs n) (limbs d0) (limbs m) ys') := z40
      subst z40
      have HB9 := Lib.hid hB
      clear hF hB hK
      go_simp
      exact hC _ _ (bel_refl _) fun _ _ => rfl
    · refine stepG_plain rfl ?_
      intro a0 w9 K9 hF hB hK hC
      obtain ⟨v34, e34, z34⟩ := dep hK 0 (g := .data) (j := 5) (k := 34) rfl rfl rfl
      have z34 : v34 = .bool false := z34
      subst z34
      obtain ⟨v41, e41, z41⟩ := dep hK 1 (g := .data) (j := 12) (k := 41) rfl rfl rfl
      have z41 : v41 = .bool false := z41
      subst z41
      have HB9 := Lib.hid hB
      clear hF hB hK
      go_simp
      exact hC _ _ (bel_refl _) fun _ _ => rfl
    · refine stepG_plain rfl ?_
      intro a0 w9 K9 hF hB hK hC
      obtain ⟨v42, e42, z42⟩ := dep hK 0 (g := .data) (j := 13) (k := 42) rfl rfl rfl
      have z42 : v42 = .bool false := z42
      subst z42
      clear hF hB hK
      go_simp
      exact hC _ _ (bel_refl _) fun _ _ => rfl
    · intro a0 w9 K9 hF hB hK hC
      obtain ⟨vg, eg, zg⟩ := dep hK 0 (g := .guard) (j := 14) (k := 43) rfl rfl rfl
      have zg : vg = .bool false := zg
      subst zg
      refine guard_in (j := 14) (k := 43) (want := false) rfl rfl eg rfl ?_
      have b3 := hF.base (k := 3) (v := .pointer (some ⟨w.heap.size, 0, none⟩)) (by kernel_rfl) rfl
      have x90 : w9.cell? ⟨w.heap.size, 0, none⟩ = some (.bool s) := (CX.out.below hB CX.out.lt).cell 0
      have x91 : w9.cell? ⟨w.heap.size, 1, none⟩ = some (.slice A (limbs n).length c) := (CX.out.below hB CX.out.lt).cell 1
      have x92 : w9.cell? ⟨w.heap.size, 2, none⟩ = some (.slice B (limbs d0).length d) := (CX.out.below hB CX.out.lt).cell 2
      clear hF hB hK
      go_simp
      exact hC _ _ (bel_refl _) fun _ _ => rfl
    · intro a0 w9 K9 hF hB hK hC
      obtain ⟨vg, eg, zg⟩ := dep hK 0 (g := .guard) (j := 14) (k := 43) rfl rfl rfl
      have zg : vg = .bool false := zg
      subst zg
      refine guard_in (j := 14) (k := 43) (want := false) rfl rfl eg rfl ?_
      have b3 := hF.base (k := 3) (v := .pointer (some ⟨w.heap.size, 0, none⟩)) (by kernel_rfl) rfl
      have x90 : w9.cell? ⟨w.heap.size, 0, none⟩ = some (.bool s) := (CX.out.below hB CX.out.lt).cell 0
      have x91 : w9.cell? ⟨w.heap.size, 1, none⟩ = some (.slice A (limbs n).length c) := (CX.out.below hB CX.out.lt).cell 1
      have x92 : w9.cell? ⟨w.heap.size, 2, none⟩ = some (.slice B (limbs d0).length d) := (CX.out.below hB CX.out.lt).cell 2
      clear hF hB hK
      go_simp
      exact hC _ _ (bel_refl _) fun _ _ => rfl
    · intro a0 w9 K9 hF hB hK hC
      obtain ⟨vg, eg, zg⟩ := dep hK 3 (g := .guard) (j := 14) (k := 43) rfl rfl rfl
      have zg : vg = .bool false := zg
      subst zg
      refine guard_in (j := 14) (k := 43) (want := false) rfl rfl eg rfl ?_
      obtain ⟨v44, e44, z44⟩ := dep hK 0 (g := .data) (j := 15) (k := 44) rfl rfl rfl
      have z44 : v44 = .agg #[.bool s, .slice A (limbs n).length c, .slice B (limbs d0).length d] := z44
      subst z44
      obtain ⟨v45, e45, z45⟩ := dep hK 1 (g := .data) (j := 16) (k := 45) rfl rfl rfl
      have z45 : v45 = .agg #[.bool s, .slice A (limbs n).length c, .slice B (limbs d0).length d] := z45
      subst z45
      have HB9 := Lib.hid hB
      clear hF hB hK
      go_simp
      refine (like_ok s s A B A B c d c d (limbs n) (limbs d0) (limbs n) (limbs d0) _ (R1.out.below HB9.out) (R1.out.below HB9.out) L18.out.1 (R2.out.below HB9.out) (R2.out.below HB9.out) L18.out.2.1 (like_self _ _ _)).mono ?_
      rintro e w7 ⟨rfl, hbl⟩
      exact hC _ _ hbl fun _ _ => rfl
    · intro a0 w9 K9 hF hB hK hC
      obtain ⟨vg, eg, zg⟩ := dep hK 1 (g := .guard) (j := 14) (k := 43) rfl rfl rfl
      have zg : vg = .bool false := zg
      subst zg
      refine guard_in (j := 14) (k := 43) (want := false) rfl rfl eg rfl ?_
      obtain ⟨v46, e46, z46⟩ := dep hK 0 (g := .data) (j := 17) (k := 46) rfl rfl rfl
      have z46 : v46 = .bool true := z46
      subst z46
      have HB9 := Lib.hid hB
      clear hF hB hK
      go_simp
      exact hC _ _ (bel_refl _) fun _ _ => rfl
    · refine stepG_plain rfl ?_
      intro a0 w9 K9 hF hB hK hC
      obtain ⟨v43, e43, z43⟩ := dep hK 0 (g := .data) (j := 14) (k := 43) rfl rfl rfl
      have z43 : v43 = .bool false := z43
      subst z43
      obtain ⟨v47, e47, z47⟩ := dep hK 1 (g := .data) (j := 18) (k := 47) rfl rfl rfl
      have z47 : v47 = .bool false := z47
      subst z47
      have HB9 := Lib.hid hB
      clear hF hB hK
      go_simp
      exact hC _ _ (bel_refl _) fun _ _ => rfl
    · refine stepG_plain rfl ?_
      intro a0 w9 K9 hF hB hK hC
      obtain ⟨v48, e48, z48⟩ := dep hK 0 (g := .data) (j := 19) (k := 48) rfl rfl rfl
      have z48 : v48 = .bool false := z48
      subst z48
      clear hF hB hK
      go_simp
      exact hC _ _ (bel_refl _) fun _ _ => rfl
    · intro a0 w9 K9 hF hB hK hC
      obtain ⟨vg, eg, zg⟩ := dep hK 1 (g := .guard) (j := 20) (k := 49) rfl rfl rfl
      have zg : vg = .bool false := zg
      subst zg
      refine guard_in (j := 20) (k := 49) (want := false) rfl rfl eg rfl ?_
      have HB9 := Lib.hid hB
      clear hF hB hK
      go_simp
      refine (aliveQ _).mono ?_
      rintro e w7 ⟨rfl, hbl⟩
      exact hC _ _ hbl fun _ _ => rfl
    · intro a0 w9 K9 hF hB hK hC
      obtain ⟨vg, eg, zg⟩ := dep hK 1 (g := .guard) (j := 20) (k := 49) rfl rfl rfl
      have zg : vg = .bool false := zg
      subst zg
      refine guard_in (j := 20) (k := 49) (want := false) rfl rfl eg rfl ?_
      obtain ⟨v50, e50, z50⟩ := dep hK 0 (g := .data) (j := 21) (k := 50) rfl rfl rfl
      have z50 : v50 = .bool true := z50
      subst z50
      have HB9 := Lib.hid hB
      clear hF hB hK
      go_simp
      exact hC _ _ (bel_refl _) fun _ _ => rfl
    · refine stepG_plain rfl ?_
      intro a0 w9 K9 hF hB hK hC
      obtain ⟨v49, e49, z49⟩ := dep hK 0 (g := .data) (j := 20) (k := 49) rfl rfl rfl
      have z49 : v49 = .bool false := z49
      subst z49
      obtain ⟨v51, e51, z51⟩ := dep hK 1 (g := .data) (j := 22) (k := 51) rfl rfl rfl
      have z51 : v51 = .bool false := z51
      subst z51
      have HB9 := Lib.hid hB
      clear hF hB hK
      go_simp
      exact hC _ _ (bel_refl _) fun _ _ => rfl
    case fin =>
      intro a0 w9 hF hB hK
      have b2 := hF.base (k := 2) (v := .bool neg) (by kernel_rfl) rfl
      have b3 := hF.base (k := 3) (v := .pointer (some ⟨w.heap.size, 0, none⟩)) (by kernel_rfl) rfl
      have b4 := hF.base (k := 4) (v := .pointer (some ⟨w.heap.size + 1, 0, none⟩)) (by kernel_rfl) rfl
      have b7 := hF.base (k := 7) (v := .pointer (some ⟨w1.heap.size, 0, none⟩)) (by kernel_rfl) rfl
      have b8 := hF.base (k := 8) (v := .int .i64 0) (by kernel_rfl) rfl
      have b9 := hF.base (k := 9) (v := .string (qText s n d0)) (by kernel_rfl) rfl
      have b10 := hF.base (k := 10) (v := .int .i64 0) (by kernel_rfl) rfl
      have hsz := hF.size
      have hdf := hF.defers
      clear hF
      obtain ⟨v52, e52, z52⟩ := known hK 23 (k := 52) (by decide) rfl
      have z52 : v52 = .bool false := z52
      subst z52
      clear hK
      obtain ⟨⟨l0⟩, df⟩ := a0
      have hs0 : l0.length = 119 := hsz
      clear hsz
      replace hdf : df = _ := hdf
      subst hdf
      obtain ⟨u, rfl⟩ := lits_119 hs0
      clear hs0
      have q2 : u 2 = _ := Option.some.inj b2
      clear b2
      have q3 : u 3 = _ := Option.some.inj b3
      clear b3
      have q4 : u 4 = _ := Option.some.inj b4
      clear b4
      have q7 : u 7 = _ := Option.some.inj b7
      clear b7
      have q8 : u 8 = _ := Option.some.inj b8
      clear b8
      have q9 : u 9 = _ := Option.some.inj b9
      clear b9
      have q10 : u 10 = _ := Option.some.inj b10
      clear b10
      have q52 : u 52 = _ := Option.some.inj e52
      clear e52
      rw [q2, q3, q4, q7, q8, q9, q10, q52]
      clear q2 q3 q4 q7 q8 q9 q10 q52
      have hbl := hB; clear hB
      replace R1 := Lib.hid (R1.out.below hbl)
      replace R2 := Lib.hid (R2.out.below hbl)
      replace R3 := Lib.hid (R3.out.below hbl)
      replace R4 := Lib.hid (R4.out.below hbl)
      replace Rx := Lib.hid (Rx.out.below hbl)
      replace HNx := Lib.hid (HNx.out.below hbl)
      replace Ry := Lib.hid (Ry.out.below hbl)
      replace HNy := Lib.hid (HNy.out.below hbl)
      replace CX := Lib.hid (CX.out.below hbl CX.out.lt)
      replace CY := Lib.hid (CY.out.below hbl CY.out.lt)
      replace VX := Lib.hid (VX.out.below hbl VX.out.lt)
      replace HW := Lib.hid (bel_trans HW.out hbl); clear hbl
      clear CX0 CX1 CX2 CY0 CY1 CY2 VX0 VX1 VX2
      have CX0 : w9.cell? ⟨w.heap.size, 0, none⟩ = some (.bool s) := CX.out.cell 0
      have CX1 : w9.cell? ⟨w.heap.size, 1, none⟩ = some (.slice A (limbs n).length c) := CX.out.cell 1
      have CX2 : w9.cell? ⟨w.heap.size, 2, none⟩ = some (.slice B (limbs d0).length d) := CX.out.cell 2
      have CY0 : w9.cell? ⟨w.heap.size + 1, 0, none⟩ = some (.bool s') := CY.out.cell 0
      have CY1 : w9.cell? ⟨w.heap.size + 1, 1, none⟩ = some (.slice A' (limbs m).length c') := CY.out.cell 1
      have CY2 : w9.cell? ⟨w.heap.size + 1, 2, none⟩ = some (.slice B' ys'.length d') := CY.out.cell 2
      have VX0 : w9.cell? ⟨w1.heap.size, 0, none⟩ = some (.bool q.s) := VX.out.cell 0
      have VX1 : w9.cell? ⟨w1.heap.size, 1, none⟩ = some (.slice Ax (limbs q.n).length cx) := VX.out.cell 1
      have VX2 : w9.cell? ⟨w1.heap.size, 2, none⟩ = some (.slice Ay (limbs q.d).length cy) := VX.out.cell 2
      refine wpList_nil ?_
      go_wp2_with fail
      refine (refRatRight_is s A B c d (limbs n) (limbs d0) _ R1.out R2.out M.out.1 M.out.2.1 L18.out.1 L18.out.2.1 HR.out).mono ?_
      rintro e w3 ⟨rfl, hbl⟩
      replace R1 := Lib.hid (R1.out.below hbl)
      replace R2 := Lib.hid (R2.out.below hbl)
      replace R3 := Lib.hid (R3.out.below hbl)
      replace R4 := Lib.hid (R4.out.below hbl)
      replace Rx := Lib.hid (Rx.out.below hbl)
      replace HNx := Lib.hid (HNx.out.below hbl)
      replace Ry := Lib.hid (Ry.out.below hbl)
      replace HNy := Lib.hid (HNy.out.below hbl)
      replace CX := Lib.hid (CX.out.below hbl CX.out.lt)
      replace CY := Lib.hid (CY.out.below hbl CY.out.lt)
      replace VX := Lib.hid (VX.out.below hbl VX.out.lt)
      replace HW := Lib.hid (bel_trans HW.out hbl); clear hbl
      clear CX0 CX1 CX2 CY0 CY1 CY2 VX0 VX1 VX2
      have CX0 : w3.cell? ⟨w.heap.size, 0, none⟩ = some (.bool s) := CX.out.cell 0
      have CX1 : w3.cell? ⟨w.heap.size, 1, none⟩ = some (.slice A (limbs n).length c) := CX.out.cell 1
      have CX2 : w3.cell? ⟨w.heap.size, 2, none⟩ = some (.slice B (limbs d0).length d) := CX.out.cell 2
      have CY0 : w3.cell? ⟨w.heap.size + 1, 0, none⟩ = some (.bool s') := CY.out.cell 0
      have CY1 : w3.cell? ⟨w.heap.size + 1, 1, none⟩ = some (.slice A' (limbs m).length c') := CY.out.cell 1
      have CY2 : w3.cell? ⟨w.heap.size + 1, 2, none⟩ = some (.slice B' ys'.length d') := CY.out.cell 2
      have VX0 : w3.cell? ⟨w1.heap.size, 0, none⟩ = some (.bool q.s) := VX.out.cell 0
      have VX1 : w3.cell? ⟨w1.heap.size, 1, none⟩ = some (.slice Ax (limbs q.n).length cx) := VX.out.cell 1
      have VX2 : w3.cell? ⟨w1.heap.size, 2, none⟩ = some (.slice Ay (limbs q.d).length cy) := VX.out.cell 2
      go_wp2_with fail
      refine (refOf_any s A B c d n d0 _ R1.out R2.out HQ.out.1 HQ.out.2.1).mono ?_
      rintro e w4 ⟨rfl, hbl⟩
      replace R1 := Lib.hid (R1.out.below hbl)
      replace R2 := Lib.hid (R2.out.below hbl)
      replace R3 := Lib.hid (R3.out.below hbl)
      replace R4 := Lib.hid (R4.out.below hbl)
      replace Rx := Lib.hid (Rx.out.below hbl)
      replace HNx := Lib.hid (HNx.out.below hbl)
      replace Ry := Lib.hid (Ry.out.below hbl)
      replace HNy := Lib.hid (HNy.out.below hbl)
      replace CX := Lib.hid (CX.out.below hbl CX.out.lt)
      replace CY := Lib.hid (CY.out.below hbl CY.out.lt)
      replace VX := Lib.hid (VX.out.below hbl VX.out.lt)
      replace HW := Lib.hid (bel_trans HW.out hbl); clear hbl
      clear CX0 CX1 CX2 CY0 CY1 CY2 VX0 VX1 VX2
      have CX0 : w4.cell? ⟨w.heap.size, 0, none⟩ = some (.bool s) := CX.out.cell 0
      have CX1 : w4.cell? ⟨w.heap.size, 1, none⟩ = some (.slice A (limbs n).length c) := CX.out.cell 1
      have CX2 : w4.cell? ⟨w.heap.size, 2, none⟩ = some (.slice B (limbs d0).length d) := CX.out.cell 2
      have CY0 : w4.cell? ⟨w.heap.size + 1, 0, none⟩ = some (.bool s') := CY.out.cell 0
      have CY1 : w4.cell? ⟨w.heap.size + 1, 1, none⟩ = some (.slice A' (limbs m).length c') := CY.out.cell 1
      have CY2 : w4.cell? ⟨w.heap.size + 1, 2, none⟩ = some (.slice B' ys'.length d') := CY.out.cell 2
      have VX0 : w4.cell? ⟨w1.heap.size, 0, none⟩ = some (.bool q.s) := VX.out.cell 0
      have VX1 : w4.cell? ⟨w1.heap.size, 1, none⟩ = some (.slice Ax (limbs q.n).length cx) := VX.out.cell 1
      have VX2 : w4.cell? ⟨w1.heap.size, 2, none⟩ = some (.slice Ay (limbs q.d).length cy) := VX.out.cell 2
      go_wp2_with fail
      refine (reft_any s n d0 false _ (Nat.le_trans (dec_len HQ.out.1) (by decide)) (Nat.le_trans (dec_len HQ.out.2.1) (by decide))).mono ?_
      rintro e w5 ⟨rfl, hbl⟩
      replace R1 := Lib.hid (R1.out.below hbl)
      replace R2 := Lib.hid (R2.out.below hbl)
      replace R3 := Lib.hid (R3.out.below hbl)
      replace R4 := Lib.hid (R4.out.below hbl)
      replace Rx := Lib.hid (Rx.out.below hbl)
      replace HNx := Lib.hid (HNx.out.below hbl)
      replace Ry := Lib.hid (Ry.out.below hbl)
      replace HNy := Lib.hid (HNy.out.below hbl)
      replace CX := Lib.hid (CX.out.below hbl CX.out.lt)
      replace CY := Lib.hid (CY.out.below hbl CY.out.lt)
      replace VX := Lib.hid (VX.out.below hbl VX.out.lt)
      replace HW := Lib.hid (bel_trans HW.out hbl); clear hbl
      clear CX0 CX1 CX2 CY0 CY1 CY2 VX0 VX1 VX2
      have CX0 : w5.cell? ⟨w.heap.size, 0, none⟩ = some (.bool s) := CX.out.cell 0
      have CX1 : w5.cell? ⟨w.heap.size, 1, none⟩ = some (.slice A (limbs n).length c) := CX.out.cell 1
      have CX2 : w5.cell? ⟨w.heap.size, 2, none⟩ = some (.slice B (limbs d0).length d) := CX.out.cell 2
      have CY0 : w5.cell? ⟨w.heap.size + 1, 0, none⟩ = some (.bool s') := CY.out.cell 0
      have CY1 : w5.cell? ⟨w.heap.size + 1, 1, none⟩ = some (.slice A' (limbs m).length c') := CY.out.cell 1
      have CY2 : w5.cell? ⟨w.heap.size + 1, 2, none⟩ = some (.slice B' ys'.length d') := CY.out.cell 2
      have VX0 : w5.cell? ⟨w1.heap.size, 0, none⟩ = some (.bool q.s) := VX.out.cell 0
      have VX1 : w5.cell? ⟨w1.heap.size, 1, none⟩ = some (.slice Ax (limbs q.n).length cx) := VX.out.cell 1
      have VX2 : w5.cell? ⟨w1.heap.size, 2, none⟩ = some (.slice Ay (limbs q.d).length cy) := VX.out.cell 2
      go_wp2_with fail
      refine (refRatRight_is s A B c d (limbs n) (limbs d0) _ R1.out R2.out M.out.1 M.out.2.1 L18.out.1 L18.out.2.1 HR.out).mono ?_
      rintro e w6 ⟨rfl, hbl⟩
      replace R1 := Lib.hid (R1.out.below hbl)
      replace R2 := Lib.hid (R2.out.below hbl)
      replace R3 := Lib.hid (R3.out.below hbl)
      replace R4 := Lib.hid (R4.out.below hbl)
      replace Rx := Lib.hid (Rx.out.below hbl)
      replace HNx := Lib.hid (HNx.out.below hbl)
      replace Ry := Lib.hid (Ry.out.below hbl)
      replace HNy := Lib.hid (HNy.out.below hbl)
      replace CX := Lib.hid (CX.out.below hbl CX.out.lt)
      replace CY := Lib.hid (CY.out.below hbl CY.out.lt)
      replace VX := Lib.hid (VX.out.below hbl VX.out.lt)
      replace HW := Lib.hid (bel_trans HW.out hbl); clear hbl
      clear CX0 CX1 CX2 CY0 CY1 CY2 VX0 VX1 VX2
      have CX0 : w6.cell? ⟨w.heap.size, 0, none⟩ = some (.bool s) := CX.out.cell 0
      have CX1 : w6.cell? ⟨w.heap.size, 1, none⟩ = some (.slice A (limbs n).length c) := CX.out.cell 1
      have CX2 : w6.cell? ⟨w.heap.size, 2, none⟩ = some (.slice B (limbs d0).length d) := CX.out.cell 2
      have CY0 : w6.cell? ⟨w.heap.size + 1, 0, none⟩ = some (.bool s') := CY.out.cell 0
      have CY1 : w6.cell? ⟨w.heap.size + 1, 1, none⟩ = some (.slice A' (limbs m).length c') := CY.out.cell 1
      have CY2 : w6.cell? ⟨w.heap.size + 1, 2, none⟩ = some (.slice B' ys'.length d') := CY.out.cell 2
      have VX0 : w6.cell? ⟨w1.heap.size, 0, none⟩ = some (.bool q.s) := VX.out.cell 0
      have VX1 : w6.cell? ⟨w1.heap.size, 1, none⟩ = some (.slice Ax (limbs q.n).length cx) := VX.out.cell 1
      have VX2 : w6.cell? ⟨w1.heap.size, 2, none⟩ = some (.slice Ay (limbs q.d).length cy) := VX.out.cell 2
      go_wp2_with fail
      refine (refRight_bb A c (limbs n) _ R1.out L18.out.1).mono ?_
      rintro e w7 ⟨rfl, hbl⟩
      replace R1 := Lib.hid (R1.out.below hbl)
      replace R2 := Lib.hid (R2.out.below hbl)
      replace R3 := Lib.hid (R3.out.below hbl)
      replace R4 := Lib.hid (R4.out.below hbl)
      replace Rx := Lib.hid (Rx.out.below hbl)
      replace HNx := Lib.hid (HNx.out.below hbl)
      replace Ry := Lib.hid (Ry.out.below hbl)
      replace HNy := Lib.hid (HNy.out.below hbl)
      replace CX := Lib.hid (CX.out.below hbl CX.out.lt)
      replace CY := Lib.hid (CY.out.below hbl CY.out.lt)
      replace VX := Lib.hid (VX.out.below hbl VX.out.lt)
      replace HW := Lib.hid (bel_trans HW.out hbl); clear hbl
      clear CX0 CX1 CX2 CY0 CY1 CY2 VX0 VX1 VX2
      have CX0 : w7.cell? ⟨w.heap.size, 0, none⟩ = some (.bool s) := CX.out.cell 0
      have CX1 : w7.cell? ⟨w.heap.size, 1, none⟩ = some (.slice A (limbs n).length c) := CX.out.cell 1
      have CX2 : w7.cell? ⟨w.heap.size, 2, none⟩ = some (.slice B (limbs d0).length d) := CX.out.cell 2
      have CY0 : w7.cell? ⟨w.heap.size + 1, 0, none⟩ = some (.bool s') := CY.out.cell 0
      have CY1 : w7.cell? ⟨w.heap.size + 1, 1, none⟩ = some (.slice A' (limbs m).length c') := CY.out.cell 1
      have CY2 : w7.cell? ⟨w.heap.size + 1, 2, none⟩ = some (.slice B' ys'.length d') := CY.out.cell 2
      have VX0 : w7.cell? ⟨w1.heap.size, 0, none⟩ = some (.bool q.s) := VX.out.cell 0
      have VX1 : w7.cell? ⟨w1.heap.size, 1, none⟩ = some (.slice Ax (limbs q.n).length cx) := VX.out.cell 1
      have VX2 : w7.cell? ⟨w1.heap.size, 2, none⟩ = some (.slice Ay (limbs q.d).length cy) := VX.out.cell 2
      rw [rightL_limbs HX.out]
      go_wp2_with fail
      refine (refRight_bb A' c' (limbs m) _ R3.out L18.out.2.2.1).mono ?_
      rintro e w8 ⟨rfl, hbl⟩
      replace R1 := Lib.hid (R1.out.below hbl)
      replace R2 := Lib.hid (R2.out.below hbl)
      replace R3 := Lib.hid (R3.out.below hbl)
      replace R4 := Lib.hid (R4.out.below hbl)
      replace Rx := Lib.hid (Rx.out.below hbl)
      replace HNx := Lib.hid (HNx.out.below hbl)
      replace Ry := Lib.hid (Ry.out.below hbl)
      replace HNy := Lib.hid (HNy.out.below hbl)
      replace CX := Lib.hid (CX.out.below hbl CX.out.lt)
      replace CY := Lib.hid (CY.out.below hbl CY.out.lt)
      replace VX := Lib.hid (VX.out.below hbl VX.out.lt)
      replace HW := Lib.hid (bel_trans HW.out hbl); clear hbl
      clear CX0 CX1 CX2 CY0 CY1 CY2 VX0 VX1 VX2
      have CX0 : w8.cell? ⟨w.heap.size, 0, none⟩ = some (.bool s) := CX.out.cell 0
      have CX1 : w8.cell? ⟨w.heap.size, 1, none⟩ = some (.slice A (limbs n).length c) := CX.out.cell 1
      have CX2 : w8.cell? ⟨w.heap.size, 2, none⟩ = some (.slice B (limbs d0).length d) := CX.out.cell 2
      have CY0 : w8.cell? ⟨w.heap.size + 1, 0, none⟩ = some (.bool s') := CY.out.cell 0
      have CY1 : w8.cell? ⟨w.heap.size + 1, 1, none⟩ = some (.slice A' (limbs m).length c') := CY.out.cell 1
      have CY2 : w8.cell? ⟨w.heap.size + 1, 2, none⟩ = some (.slice B' ys'.length d') := CY.out.cell 2
      have VX0 : w8.cell? ⟨w1.heap.size, 0, none⟩ = some (.bool q.s) := VX.out.cell 0
      have VX1 : w8.cell? ⟨w1.heap.size, 1, none⟩ = some (.slice Ax (limbs q.n).length cx) := VX.out.cell 1
      have VX2 : w8.cell? ⟨w1.heap.size, 2, none⟩ = some (.slice Ay (limbs q.d).length cy) := VX.out.cell 2
      rw [rightL_limbs HM.out.1]
      go_wp2_with fail
      refine wp_region_typed 13 (TOf [VIs (.agg #[.bool q.s, .slice Ax (limbs q.n).length cx, .slice Ay (limbs q.d).length cy]),
          VIs (.int .i64 0),
          VIs (.bool neg),
          VIs (.pointer (some ⟨w.heap.size, 1, none⟩)),
          VIs (.slice A (limbs n).length c),
          VIs (.string (dec n)),
          VIs (.pointer (some ⟨w.heap.size + 1, 1, none⟩)),
          VIs (.slice A' (limbs m).length c'),
          VIs (.string (dec m)),
          VIs (.agg #[.bool neg, .string (dec n), .string (dec m), .bool false]),
          VIs (.agg #[.bool q.s, .string (dec q.n), .string (dec q.d), .bool false]),
          VIs (.bool true),
          VIs (.bool true)]) (by kernel_rfl) (by kernel_rfl) (by kernel_rfl) (LiftAll.at_ (.cons (VIs.lift _) (.cons (VIs.lift _) (.cons (VIs.lift _) (.cons (VIs.lift _) (.cons (VIs.lift _) (.cons (VIs.lift _) (.cons (VIs.lift _) (.cons (VIs.lift _) (.cons (VIs.lift _) (.cons (VIs.lift _) (.cons (VIs.lift _) (.cons (VIs.lift _) (.cons (VIs.lift _) .nil)))))))))))))) (steps_all (steps_cons ?_ (steps_cons ?_ (steps_cons ?_ (steps_cons ?_ (steps_cons ?_ (steps_cons ?_ (steps_cons ?_ (steps_cons ?_ (steps_cons ?_ (steps_cons ?_ (steps_cons ?_ (steps_cons ?_ (steps_cons ?_ steps_zero)))))))))))))) ?fin
      · intro a0 w9 K9 hF hB hK hC
        have b7 := hF.base (k := 7) (v := .pointer (some ⟨w1.heap.size, 0, none⟩)) (by kernel_rfl) rfl
        have x90 : w9.cell? ⟨w1.heap.size, 0, none⟩ = some (.bool q.s) := (VX.out.below hB VX.out.lt).cell 0
        have x91 : w9.cell? ⟨w1.heap.size, 1, none⟩ = some (.slice Ax (limbs q.n).length cx) := (VX.out.below hB VX.out.lt).cell 1
        have x92 : w9.cell? ⟨w1.heap.size, 2, none⟩ = some (.slice Ay (limbs q.d).length cy) := (VX.out.below hB VX.out.lt).cell 2
        clear hF hB hK
        go_simp
        exact hC _ _ (bel_refl _) fun _ _ => rfl
      · intro a0 w9 K9 hF hB hK hC
        have b8 := hF.base (k := 8) (v := .int .i64 0) (by kernel_rfl) rfl
        clear hF hB hK
        go_simp
        exact hC _ _ (bel_refl _) fun _ _ => rfl
      · intro a0 w9 K9 hF hB hK hC
        have b2 := hF.base (k := 2) (v := .bool neg) (by kernel_rfl) rfl
        clear hF hB hK
        go_simp
        exact hC _ _ (bel_refl _) fun _ _ => rfl
      · intro a0 w9 K9 hF hB hK hC
        have b3 := hF.base (k := 3) (v := .pointer (some ⟨w.heap.size, 0, none⟩)) (by kernel_rfl) rfl
        clear hF hB hK
        go_simp
        exact hC _ _ (bel_refl _) fun _ _ => rfl
      · intro a0 w9 K9 hF hB hK hC
        obtain ⟨v110, e110, z110⟩ := dep hK 0 (g := .data) (j := 3) (k := 110) rfl rfl rfl
        have z110 : v110 = .pointer (some ⟨w.heap.size, 1, none⟩) := z110
        subst z110
        have x9 : w9.cell? ⟨w.heap.size, 1, none⟩ = some (.slice A (limbs n).length c) := (CX.out.below hB CX.out.lt).cell 1
        clear hF hB hK
        go_simp
        exact hC _ _ (bel_refl _) fun _ _ => rfl
      · intro a0 w9 K9 hF hB hK hC
        obtain ⟨v111, e111, z111⟩ := dep hK 0 (g := .data) (j := 4) (k := 111) rfl rfl rfl
        have z111 : v111 = .slice A (limbs n).length c := z111
        subst z111
        have HB9 := Lib.hid hB
        clear hF hB hK
        go_simp
        refine (text_num A c n _ (R1.out.below HB9.out) HX.out).mono ?_
        rintro e w7 ⟨rfl, hbl⟩
        exact hC _ _ hbl fun _ _ => rfl
      · intro a0 w9 K9 hF hB hK hC
        have b4 := hF.base (k := 4) (v := .pointer (some ⟨w.heap.size + 1, 0, none⟩)) (by kernel_rfl) rfl
        clear hF hB hK
        go_simp
        exact hC _ _ (bel_refl _) fun _ _ => rfl
      · intro a0 w9 K9 hF hB hK hC
        obtain ⟨v113, e113, z113⟩ := dep hK 0 (g := .data) (j := 6) (k := 113) rfl rfl rfl
        have z113 : v113 = .pointer (some ⟨w.heap.size + 1, 1, none⟩) := z113
        subst z113
        have x9 : w9.cell? ⟨w.heap.size + 1, 1, none⟩ = some (.slice A' (limbs m).length c') := (CY.out.below hB CY.out.lt).cell 1
        clear hF hB hK
        go_simp
        exact hC _ _ (bel_refl _) fun _ _ => rfl
      · intro a0 w9 K9 hF hB hK hC
        obtain ⟨v114, e114, z114⟩ := dep hK 0 (g := .data) (j := 7) (k := 114) rfl rfl rfl
        have z114 : v114 = .slice A' (limbs m).length c' := z114
        subst z114
        have HB9 := Lib.hid hB
        clear hF hB hK
        go_simp
        refine (text_num A' c' m _ (R3.out.below HB9.out) HM.out.1).mono ?_
        rintro e w7 ⟨rfl, hbl⟩
        exact hC _ _ hbl fun _ _ => rfl
      · intro a0 w9 K9 hF hB hK hC
        obtain ⟨v109, e109, z109⟩ := dep hK 0 (g := .data) (j := 2) (k := 109) rfl rfl rfl
        have z109 : v109 = .bool neg := z109
        subst z109
        obtain ⟨v112, e112, z112⟩ := dep hK 1 (g := .data) (j := 5) (k := 112) rfl rfl rfl
        have z112 : v112 = .string (dec n) := z112
        subst z112
        obtain ⟨v115, e115, z115⟩ := dep hK 2 (g := .data) (j := 8) (k := 115) rfl rfl rfl
        have z115 : v115 = .string (dec m) := z115
        subst z115
        have HB9 := Lib.hid hB
        clear hF hB hK
        go_simp
        exact hC _ _ (bel_refl _) fun _ _ => rfl
      · intro a0 w9 K9 hF hB hK hC
        obtain ⟨v116, e116, z116⟩ := dep hK 0 (g := .data) (j := 9) (k := 116) rfl rfl rfl
        have z116 : v116 = .agg #[.bool neg, .string (dec n), .string (dec m), .bool false] := z116
        subst z116
        have HB9 := Lib.hid hB
        clear hF hB hK
        go_simp
        refine (refRed_fit neg n m _ HX.out HM.out.1 HM.out.2.2).mono ?_
        rintro e w7 ⟨rfl, hbl⟩
        exact hC _ _ hbl fun _ _ => rfl
      · intro a0 w9 K9 hF hB hK hC
        obtain ⟨v107, e107, z107⟩ := dep hK 0 (g := .data) (j := 0) (k := 107) rfl rfl rfl
        have z107 : v107 = .agg #[.bool q.s, .slice Ax (limbs q.n).length cx, .slice Ay (limbs q.d).length cy] := z107
        subst z107
        obtain ⟨v108, e108, z108⟩ := dep hK 1 (g := .data) (j := 1) (k := 108) rfl rfl rfl
        have z108 : v108 = .int .i64 0 := z108
        subst z108
        obtain ⟨v117, e117, z117⟩ := dep hK 2 (g := .data) (j := 10) (k := 117) rfl rfl rfl
        have z117 : v117 = .agg #[.bool q.s, .string (dec q.n), .string (dec q.d), .bool false] := z117
        subst z117
        have HB9 := Lib.hid hB
        clear hF hB hK
        go_simp
        refine (isQ_ok q Ax Ay cx cy _ (Rx.out.below HB9.out) (Ry.out.below HB9.out) HF.out.1 HF.out.2.1 HF.out.2.2).mono ?_
        rintro e w7 ⟨rfl, hbl⟩
        exact hC _ _ hbl fun _ _ => rfl
      · intro a0 w9 K9 hF hB hK hC
        obtain ⟨v118, e118, z118⟩ := dep hK 0 (g := .data) (j := 11) (k := 118) rfl rfl rfl
        have z118 : v118 = .bool true := z118
        subst z118
        clear hF hB hK
        go_simp
        exact hC _ _ (bel_refl _) fun _ _ => rfl
      case fin =>
        intro a0 w9 hF hB hK
        have b2 := hF.base (k := 2) (v := .bool neg) (by kernel_rfl) rfl
        have b3 := hF.base (k := 3) (v := .pointer (some ⟨w.heap.size, 0, none⟩)) (by kernel_rfl) rfl
        have b4 := hF.base (k := 4) (v := .pointer (some ⟨w.heap.size + 1, 0, none⟩)) (by kernel_rfl) rfl
        have b7 := hF.base (k := 7) (v := .pointer (some ⟨w1.heap.size, 0, none⟩)) (by kernel_rfl) rfl
        have b8 := hF.base (k := 8) (v := .int .i64 0) (by kernel_rfl) rfl
        have hsz := hF.size
        have hdf := hF.defers
        clear hF
        obtain ⟨v6, e6, z6⟩ := known hK 12 (k := 6) (by decide) rfl
        have z6 : v6 = .bool true := z6
        subst z6
        clear hK
        obtain ⟨⟨l0⟩, df⟩ := a0
        have hs0 : l0.length = 119 := hsz
        clear hsz
        replace hdf : df = _ := hdf
        subst hdf
        obtain ⟨u, rfl⟩ := lits_119 hs0
        clear hs0
        have q2 : u 2 = _ := Option.some.inj b2
        clear b2
        have q3 : u 3 = _ := Option.some.inj b3
        clear b3
        have q4 : u 4 = _ := Option.some.inj b4
        clear b4
        have q7 : u 7 = _ := Option.some.inj b7
        clear b7
        have q8 : u 8 = _ := Option.some.inj b8
        clear b8
        have q6 : u 6 = _ := Option.some.inj e6
        clear e6
        rw [q2, q3, q4, q7, q8, q6]
        clear q2 q3 q4 q7 q8 q6
        have hbl := hB; clear hB
        replace R1 := Lib.hid (R1.out.below hbl)
        replace R2 := Lib.hid (R2.out.below hbl)
        replace R3 := Lib.hid (R3.out.below hbl)
        replace R4 := Lib.hid (R4.out.below hbl)
        replace Rx := Lib.hid (Rx.out.below hbl)
        replace HNx := Lib.hid (HNx.out.below hbl)
        replace Ry := Lib.hid (Ry.out.below hbl)
        replace HNy := Lib.hid (HNy.out.below hbl)
        replace CX := Lib.hid (CX.out.below hbl CX.out.lt)
        replace CY := Lib.hid (CY.out.below hbl CY.out.lt)
        replace VX := Lib.hid (VX.out.below hbl VX.out.lt)
        replace HW := Lib.hid (bel_trans HW.out hbl); clear hbl
        clear CX0 CX1 CX2 CY0 CY1 CY2 VX0 VX1 VX2
        have CX0 : w9.cell? ⟨w.heap.size, 0, none⟩ = some (.bool s) := CX.out.cell 0
        have CX1 : w9.cell? ⟨w.heap.size, 1, none⟩ = some (.slice A (limbs n).length c) := CX.out.cell 1
        have CX2 : w9.cell? ⟨w.heap.size, 2, none⟩ = some (.slice B (limbs d0).length d) := CX.out.cell 2
        have CY0 : w9.cell? ⟨w.heap.size + 1, 0, none⟩ = some (.bool s') := CY.out.cell 0
        have CY1 : w9.cell? ⟨w.heap.size + 1, 1, none⟩ = some (.slice A' (limbs m).length c') := CY.out.cell 1
        have CY2 : w9.cell? ⟨w.heap.size + 1, 2, none⟩ = some (.slice B' ys'.length d') := CY.out.cell 2
        have VX0 : w9.cell? ⟨w1.heap.size, 0, none⟩ = some (.bool q.s) := VX.out.cell 0
        have VX1 : w9.cell? ⟨w1.heap.size, 1, none⟩ = some (.slice Ax (limbs q.n).length cx) := VX.out.cell 1
        have VX2 : w9.cell? ⟨w1.heap.size, 2, none⟩ = some (.slice Ay (limbs q.d).length cy) := VX.out.cell 2
        refine wpList_nil ?_
        go_wp2
        go_ret
        exact ⟨rfl, HW.out⟩
end
section
open Go.RowKit

theorem few_fine {xs : List Nat} (hx : Lim xs) (h : rightL (few xs) = true) : ∃ n, few xs = limbs n ∧ n < Top := right_num (few_lim hx) h
theorem law_makes (s s' : Bool) (A B A' B' : Option Addr) (c d c' d' : Nat) (x0 y0 x0' y0' : List Nat) (neg : Bool) (w : World) (h1 : RdL w A x0) (h2 : RdL w B y0) (h3 : RdL w A' x0') (h4 : RdL w B' y0') (k1 : x0.length ≤ c) (k2 : y0.length ≤ d) (k3 : x0'.length ≤ c') (k4 : y0'.length ≤ d') (m1 : Lim x0) (m2 : Lim y0) (m3 : Lim x0') (m4 : Lim y0') :
    Calls Try.prog 4 #[.agg #[.bool s, .slice A x0.length c, .slice B y0.length d], .agg #[.bool s', .slice A' x0'.length c', .slice B' y0'.length d'], .bool neg] w (RetT w) := by
  cases hr : rightB s (few x0) (few y0)
  · cases hx : rightL (few x0)
    · exact makes_w_num s s' A B A' B' c d c' d' x0 y0 x0' y0' (few x0) (few y0) (few x0') (few y0') neg w h1 h2 h3 h4 k1 k2 k3 k4 m1 m2 m3 m4 hr hx rfl rfl rfl rfl
    · obtain ⟨n, hn, hn2⟩ := few_fine m1 hx
      rw [hn] at hr
      cases hb : rightL (few x0')
      · exact makes_w_den s s' A B A' B' c d c' d' x0 y0 x0' y0' n (few y0) (few x0') (few y0') neg w h1 h2 h3 h4 k1 k2 k3 k4 m1 m2 m3 m4 hr hn2 hb hn rfl rfl rfl
      · obtain ⟨m, hm, hm2⟩ := few_fine m3 hb
        by_cases hm0 : m = 0
        · subst hm0
          exact makes_w_zero s s' A B A' B' c d c' d' x0 y0 x0' y0' n (few y0) (few y0') neg w h1 h2 h3 h4 k1 k2 k3 k4 m1 m2 m3 m4 hr hn2 hn rfl hm rfl
        · exact makes_w_ok s s' A B A' B' c d c' d' x0 y0 x0' y0' n (few y0) m (few y0') _ neg w h1 h2 h3 h4 k1 k2 k3 k4 m1 m2 m3 m4 hr hn2 hm2 hm0 rfl hn rfl hm rfl
  · obtain ⟨q, hs, hx, hy, hn, hd, hq⟩ := rightB_num (few_lim m1) (few_lim m2) hr
    obtain ⟨s0, n, d0⟩ := q
    obtain rfl : s0 = s := hs
    cases hb : rightL (few x0')
    · exact makes_r_den s0 s' A B A' B' c d c' d' x0 y0 x0' y0' n d0 (few x0') (few y0') neg w h1 h2 h3 h4 k1 k2 k3 k4 m1 m2 m3 m4 hn hd hq hb hx hy rfl rfl
    · obtain ⟨m, hm, hm2⟩ := few_fine m3 hb
      by_cases hm0 : m = 0
      · subst hm0
        exact makes_r_zero s0 s' A B A' B' c d c' d' x0 y0 x0' y0' n d0 (few y0') neg w h1 h2 h3 h4 k1 k2 k3 k4 m1 m2 m3 m4 hn hd hq hx hy hm rfl
      · exact makes_r_ok s0 s' A B A' B' c d c' d' x0 y0 x0' y0' n d0 m (few y0') _ neg w h1 h2 h3 h4 k1 k2 k3 k4 m1 m2 m3 m4 hn hd hq hm2 hm0 rfl hx hy hm rfl
end
end Go.Proofs.Ytmbbdjpnecjleaa
