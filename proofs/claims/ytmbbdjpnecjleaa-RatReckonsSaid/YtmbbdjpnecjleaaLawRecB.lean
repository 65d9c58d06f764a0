/-
  The law RatReckons, walked: numbers that may be.
  The law RatReckons, whole.
-/
import Derived.Test.YtmbbdjpnecjleaaLawRecA
namespace Go.Proofs.Ytmbbdjpnecjleaa
section
open Go.RowKit

set_option maxRecDepth 100000 in
set_option maxHeartbeats 1000000 in
theorem reckons_z (s s' : Bool) (A B A' B' : Option Addr) (c d c' d' : Nat) (x0 y0 x0' y0' : List Nat) (n d0 m f0 : Nat) (w : World) (h1 : RdL w A x0) (h2 : RdL w B y0) (h3 : RdL w A' x0') (h4 : RdL w B' y0') (k1 : x0.length ≤ c) (k2 : y0.length ≤ d) (k3 : x0'.length ≤ c') (k4 : y0'.length ≤ d') (m1 : Lim x0) (m2 : Lim y0) (m3 : Lim x0') (m4 : Lim y0') (hn : n < Top) (hd : d0 < Top) (hq : QR ⟨s, n, d0⟩) (hm : m < Top) (hf : f0 < Top) (hp : QR ⟨s', m, f0⟩) (hm0 : m = 0) (e1 : few x0 = (limbs n)) (e2 : few y0 = (limbs d0)) (e3 : few x0' = (limbs m)) (e4 : few y0' = (limbs f0)) :
    Calls Try.prog 5 #[.agg #[.bool s, .slice A x0.length c, .slice B y0.length d], .agg #[.bool s', .slice A' x0'.length c', .slice B' y0'.length d']] w (RetT w) := by
  have HRA := Lib.hid ((rightB_q (s := s) hn hd).2 hq)
  have HRB := Lib.hid ((rightB_q (s := s') hm hf).2 hp)
  have HQ := Lib.hid (And.intro hn (And.intro hd hq)); clear hn hd hq
  have HP := Lib.hid (And.intro hm (And.intro hf hp)); clear hm hf hp
  have DL := Lib.hid (And.intro (decL_top HQ.out.1) (And.intro (decL_top HQ.out.2.1) (And.intro (decL_top HP.out.1) (decL_top HP.out.2.1))))
  obtain ⟨q1, c1, a1, v, v'⟩ := ans_add ⟨s, n, d0⟩ ⟨s', m, f0⟩ false HQ.out.2.2.den HP.out.2.2.den
  have V1 := Lib.hid (And.intro v v'); clear v v'
  obtain ⟨ov1, ho⟩ : ∃ k, (decide (Top ≤ n * f0 + m * d0) || decide (Top ≤ d0 * f0)) = k := ⟨_, rfl⟩
  obtain ⟨f1, hf⟩ : ∃ f, sumQ s (s' != false) (n * f0) (m * d0) (d0 * f0) = f := ⟨_, rfl⟩
  have A1 := Lib.hid (show Ans q1 f1 c1 ov1 by rw [← ho, ← hf]; exact a1); clear a1
  have E1 := Lib.hid (And.intro hf ho); clear hf ho
  obtain ⟨q2, c2, a2, v, v'⟩ := ans_add ⟨s, n, d0⟩ ⟨s', m, f0⟩ true HQ.out.2.2.den HP.out.2.2.den
  have V2 := Lib.hid (And.intro v v'); clear v v'
  obtain ⟨ov2, ho⟩ : ∃ k, (decide (Top ≤ n * f0 + m * d0) || decide (Top ≤ d0 * f0)) = k := ⟨_, rfl⟩
  obtain ⟨f2, hf⟩ : ∃ f, sumQ s (s' != true) (n * f0) (m * d0) (d0 * f0) = f := ⟨_, rfl⟩
  have A2 := Lib.hid (show Ans q2 f2 c2 ov2 by rw [← ho, ← hf]; exact a2); clear a2
  have E2 := Lib.hid (And.intro hf ho); clear hf ho
  obtain ⟨q3, c3, a3, v, v'⟩ := ans_red (s != s') (n * m) (d0 * f0) (den_ne HQ.out.2.2.den HP.out.2.2.den)
  have V3 := Lib.hid (And.intro v v'); clear v v'
  obtain ⟨ov3, ho⟩ : ∃ k, overB false (n * m) (d0 * f0) = k := ⟨_, rfl⟩
  obtain ⟨f3, hf⟩ : ∃ f, redQ (s != s') (n * m) (d0 * f0) = f := ⟨_, rfl⟩
  have A3 := Lib.hid (show Ans q3 f3 c3 ov3 by rw [← ho, ← hf]; exact a3); clear a3
  have E3 := Lib.hid (And.intro hf ho); clear hf ho
  have em0 := dec_is0 m
  rw [decide_eq_true hm0] at em0
  have HM0 := Lib.hid hm0; clear hm0
  have R1 := Lib.hid (show RdL w A (limbs n) by rw [← e1]; exact h1.take 18); clear h1
  have R2 := Lib.hid (show RdL w B (limbs d0) by rw [← e2]; exact h2.take 18); clear h2
  have R3 := Lib.hid (show RdL w A' (limbs m) by rw [← e3]; exact h3.take 18); clear h3
  have R4 := Lib.hid (show RdL w B' (limbs f0) by rw [← e4]; exact h4.take 18); clear h4
  have L18 := Lib.hid (show (limbs n).length ≤ 18 ∧ (limbs d0).length ≤ 18 ∧ (limbs m).length ≤ 18 ∧ (limbs f0).length ≤ 18 by rw [← e1, ← e2, ← e3, ← e4]; exact ⟨few_le _, few_le _, few_le _, few_le _⟩)
  have KC := Lib.hid (show (limbs n).length ≤ c ∧ (limbs d0).length ≤ d ∧ (limbs m).length ≤ c' ∧ (limbs f0).length ≤ d' by rw [← e1, ← e2, ← e3, ← e4]; exact ⟨Nat.le_trans (few_short _) k1, Nat.le_trans (few_short _) k2, Nat.le_trans (few_short _) k3, Nat.le_trans (few_short _) k4⟩)
  have M := Lib.hid (show Lim (limbs n) ∧ Lim (limbs d0) ∧ Lim (limbs m) ∧ Lim (limbs f0) by rw [← e1, ← e2, ← e3, ← e4]; exact ⟨few_lim m1, few_lim m2, few_lim m3, few_lim m4⟩); clear m1 m2 m3 m4
  have F := Lib.hid (And.intro (And.intro k1 (And.intro k2 (And.intro e1 e2))) (And.intro k3 (And.intro k4 (And.intro e3 e4)))); clear k1 k2 k3 k4 e1 e2 e3 e4
  obtain ⟨wa, hwa⟩ : ∃ wa, wa = (w.alloc (.cells #[.bool s, .slice A x0.length c, .slice B y0.length d] 25)).alloc (.cells #[.bool s', .slice A' x0'.length c', .slice B' y0'.length d'] 25) := ⟨_, rfl⟩
  have hbl : Below w.heap.size w wa := by rw [hwa]; exact bel_alloc (bel_alloc (bel_refl _) _) _
  have CX : Blk wa (w.heap.size) 25 #[.bool s, .slice A x0.length c, .slice B y0.length d] := by
    have hz := Blk.new (w) 25 #[.bool s, .slice A x0.length c, .slice B y0.length d]
    rw [hwa]
    exact (hz.alloc _)
  have CY : Blk wa (w.heap.size + 1) 25 #[.bool s', .slice A' x0'.length c', .slice B' y0'.length d'] := by
    have hz := Blk.new (w.alloc (.cells #[.bool s, .slice A x0.length c, .slice B y0.length d] 25)) 25 #[.bool s', .slice A' x0'.length c', .slice B' y0'.length d']
    rw [World.size_alloc] at hz
    rw [hwa]
    exact hz
  replace R1 := Lib.hid (R1.out.below hbl)
  replace R2 := Lib.hid (R2.out.below hbl)
  replace R3 := Lib.hid (R3.out.below hbl)
  replace R4 := Lib.hid (R4.out.below hbl)
  have HW := Lib.hid hbl; clear hbl
  replace CX := Lib.hid CX
  replace CY := Lib.hid CY
  go_enter Try.func5, Try.ntmps5
  go_wp2_with fail
  rw [← hwa]
  clear hwa
  refine wp_region_typed 4 (TOf [VIs (.agg #[.bool s, .slice A x0.length c, .slice B y0.length d]),
      VIs (.agg #[.bool s, .slice A (limbs n).length c, .slice B (limbs d0).length d]),
      VIs (.agg #[.bool s', .slice A' x0'.length c', .slice B' y0'.length d']),
      VIs (.agg #[.bool s', .slice A' (limbs m).length c', .slice B' (limbs f0).length d'])]) (by kernel_rfl) (by kernel_rfl) (by kernel_rfl) (LiftAll.at_ (.cons (VIs.lift _) (.cons (VIs.lift _) (.cons (VIs.lift _) (.cons (VIs.lift _) .nil))))) (steps_all (steps_cons ?_ (steps_cons ?_ (steps_cons ?_ (steps_cons ?_ steps_zero))))) ?fin
  · intro a0 w9 K9 hF hB hK hC
    have b2 := hF.base (k := 2) (v := .pointer (some ⟨w.heap.size, 0, none⟩)) (by kernel_rfl) rfl
    have x90 : w9.cell? ⟨w.heap.size, 0, none⟩ = some (.bool s) := (CX.out.below hB CX.out.lt).cell 0
    have x91 : w9.cell? ⟨w.heap.size, 1, none⟩ = some (.slice A x0.length c) := (CX.out.below hB CX.out.lt).cell 1
    have x92 : w9.cell? ⟨w.heap.size, 2, none⟩ = some (.slice B y0.length d) := (CX.out.below hB CX.out.lt).cell 2
    clear hF hB hK
    go_simp
    exact hC _ _ (bel_refl _) fun _ _ => rfl
  · intro a0 w9 K9 hF hB hK hC
    obtain ⟨v16, e16, z16⟩ := dep hK 0 (g := .data) (j := 0) (k := 16) rfl rfl rfl
    have z16 : v16 = .agg #[.bool s, .slice A x0.length c, .slice B y0.length d] := z16
    subst z16
    have HB9 := Lib.hid hB
    clear hF hB hK
    go_simp
    refine (fewQ_is s A B c d x0 y0 (limbs n) (limbs d0) _ F.out.1.1 F.out.1.2.1 F.out.1.2.2.1 F.out.1.2.2.2).mono ?_
    rintro e w7 ⟨rfl, hbl⟩
    exact hC _ _ hbl fun _ _ => rfl
  · intro a0 w9 K9 hF hB hK hC
    have b3 := hF.base (k := 3) (v := .pointer (some ⟨w.heap.size + 1, 0, none⟩)) (by kernel_rfl) rfl
    have x90 : w9.cell? ⟨w.heap.size + 1, 0, none⟩ = some (.bool s') := (CY.out.below hB CY.out.lt).cell 0
    have x91 : w9.cell? ⟨w.heap.size + 1, 1, none⟩ = some (.slice A' x0'.length c') := (CY.out.below hB CY.out.lt).cell 1
    have x92 : w9.cell? ⟨w.heap.size + 1, 2, none⟩ = some (.slice B' y0'.length d') := (CY.out.below hB CY.out.lt).cell 2
    clear hF hB hK
    go_simp
    exact hC _ _ (bel_refl _) fun _ _ => rfl
  · intro a0 w9 K9 hF hB hK hC
    obtain ⟨v18, e18, z18⟩ := dep hK 0 (g := .data) (j := 2) (k := 18) rfl rfl rfl
    have z18 : v18 = .agg #[.bool s', .slice A' x0'.length c', .slice B' y0'.length d'] := z18
    subst z18
    have HB9 := Lib.hid hB
    clear hF hB hK
    go_simp
    refine (fewQ_is s' A' B' c' d' x0' y0' (limbs m) (limbs f0) _ F.out.2.1 F.out.2.2.1 F.out.2.2.2.1 F.out.2.2.2.2).mono ?_
    rintro e w7 ⟨rfl, hbl⟩
    exact hC _ _ hbl fun _ _ => rfl
  case fin =>
    intro a0 w9 hF hB hK
    have b2 := hF.base (k := 2) (v := .pointer (some ⟨w.heap.size, 0, none⟩)) (by kernel_rfl) rfl
    have b3 := hF.base (k := 3) (v := .pointer (some ⟨w.heap.size + 1, 0, none⟩)) (by kernel_rfl) rfl
    have hsz := hF.size
    have hdf := hF.defers
    clear hF
    obtain ⟨v17, e17, z17⟩ := known hK 1 (k := 17) (by decide) rfl
    have z17 : v17 = .agg #[.bool s, .slice A (limbs n).length c, .slice B (limbs d0).length d] := z17
    subst z17
    obtain ⟨v19, e19, z19⟩ := known hK 3 (k := 19) (by decide) rfl
    have z19 : v19 = .agg #[.bool s', .slice A' (limbs m).length c', .slice B' (limbs f0).length d'] := z19
    subst z19
    clear hK
    obtain ⟨⟨l0⟩, df⟩ := a0
    have hs0 : l0.length = 140 := hsz
    clear hsz
    replace hdf : df = _ := hdf
    subst hdf
    obtain ⟨u, rfl⟩ := lits_140 hs0
    clear hs0
    have q2 : u 2 = _ := Option.some.inj b2
    clear b2
    have q3 : u 3 = _ := Option.some.inj b3
    clear b3
    have q17 : u 17 = _ := Option.some.inj e17
    clear e17
    have q19 : u 19 = _ := Option.some.inj e19
    clear e19
    rw [q2, q3, q17, q19]
    clear q2 q3 q17 q19
    have hbl := hB; clear hB
    replace R1 := Lib.hid (R1.out.below hbl)
    replace R2 := Lib.hid (R2.out.below hbl)
    replace R3 := Lib.hid (R3.out.below hbl)
    replace R4 := Lib.hid (R4.out.below hbl)
    replace CX := Lib.hid (CX.out.below hbl CX.out.lt)
    replace CY := Lib.hid (CY.out.below hbl CY.out.lt)
    replace HW := Lib.hid (bel_trans HW.out hbl); clear hbl
    simp only [List.drop_succ_cons, List.drop_zero]
    have pd0 := CX.out.cell 0
    have pf0 := CX.out.frozen 0
    have pd1 := CX.out.cell 1
    have pf1 := CX.out.frozen 1
    have pd2 := CX.out.cell 2
    have pf2 := CX.out.frozen 2
    have qd0 := CY.out.cell 0
    have qf0 := CY.out.frozen 0
    have qd1 := CY.out.cell 1
    have qf1 := CY.out.frozen 1
    have qd2 := CY.out.cell 2
    have qf2 := CY.out.frozen 2
    go_upto_region 2 with fail
    clear pd0 pf0 pd1 pf1 pd2 pf2 qd0 qf0 qd1 qf1 qd2 qf2
    obtain ⟨wf, hwf⟩ : ∃ wf, wf = ((((((w9.setCell ⟨w.heap.size, 0, none⟩ (.bool s)).setCell ⟨w.heap.size, 1, none⟩ (.slice A (limbs n).length c)).setCell ⟨w.heap.size, 2, none⟩ (.slice B (limbs d0).length d)).setCell ⟨w.heap.size + 1, 0, none⟩ (.bool s')).setCell ⟨w.heap.size + 1, 1, none⟩ (.slice A' (limbs m).length c')).setCell ⟨w.heap.size + 1, 2, none⟩ (.slice B' (limbs f0).length d')) := ⟨_, rfl⟩
    rw [← hwf]
    replace R1 := Lib.hid (show RdL wf _ _ by rw [hwf]; exact RdL.set3 ((((CY.out).far (p := ⟨w.heap.size, 0, none⟩) (by simp) _).far (p := ⟨w.heap.size, 1, none⟩) (by simp) _).far (p := ⟨w.heap.size, 2, none⟩) (by simp) _) (RdL.set3 (CX.out) (R1.out) _ _ _) _ _ _)
    replace R2 := Lib.hid (show RdL wf _ _ by rw [hwf]; exact RdL.set3 ((((CY.out).far (p := ⟨w.heap.size, 0, none⟩) (by simp) _).far (p := ⟨w.heap.size, 1, none⟩) (by simp) _).far (p := ⟨w.heap.size, 2, none⟩) (by simp) _) (RdL.set3 (CX.out) (R2.out) _ _ _) _ _ _)
    replace R3 := Lib.hid (show RdL wf _ _ by rw [hwf]; exact RdL.set3 ((((CY.out).far (p := ⟨w.heap.size, 0, none⟩) (by simp) _).far (p := ⟨w.heap.size, 1, none⟩) (by simp) _).far (p := ⟨w.heap.size, 2, none⟩) (by simp) _) (RdL.set3 (CX.out) (R3.out) _ _ _) _ _ _)
    replace R4 := Lib.hid (show RdL wf _ _ by rw [hwf]; exact RdL.set3 ((((CY.out).far (p := ⟨w.heap.size, 0, none⟩) (by simp) _).far (p := ⟨w.heap.size, 1, none⟩) (by simp) _).far (p := ⟨w.heap.size, 2, none⟩) (by simp) _) (RdL.set3 (CX.out) (R4.out) _ _ _) _ _ _)
    have CX_ := Lib.hid (show Blk wf (w.heap.size) 25 #[.bool s, .slice A (limbs n).length c, .slice B (limbs d0).length d] by rw [hwf]; exact ((((((CX.out).put 0 (.bool s)).put 1 (.slice A (limbs n).length c)).put 2 (.slice B (limbs d0).length d)).far (p := ⟨w.heap.size + 1, 0, none⟩) (by simp) _).far (p := ⟨w.heap.size + 1, 1, none⟩) (by simp) _).far (p := ⟨w.heap.size + 1, 2, none⟩) (by simp) _)
    have CY_ := Lib.hid (show Blk wf (w.heap.size + 1) 25 #[.bool s', .slice A' (limbs m).length c', .slice B' (limbs f0).length d'] by rw [hwf]; exact ((((((CY.out).far (p := ⟨w.heap.size, 0, none⟩) (by simp) _).far (p := ⟨w.heap.size, 1, none⟩) (by simp) _).far (p := ⟨w.heap.size, 2, none⟩) (by simp) _).put 0 (.bool s')).put 1 (.slice A' (limbs m).length c')).put 2 (.slice B' (limbs f0).length d'))
    replace CX := CX_; clear CX_
    replace CY := CY_; clear CY_
    replace HW := Lib.hid (show Below w.heap.size w wf by rw [hwf]; exact bel_set (p := ⟨w.heap.size + 1, 2, none⟩) (bel_set (p := ⟨w.heap.size + 1, 1, none⟩) (bel_set (p := ⟨w.heap.size + 1, 0, none⟩) (bel_set (p := ⟨w.heap.size, 2, none⟩) (bel_set (p := ⟨w.heap.size, 1, none⟩) (bel_set (p := ⟨w.heap.size, 0, none⟩) (HW.out) (by show w.heap.size ≤ w.heap.size; omega) _) (by show w.heap.size ≤ w.heap.size; omega) _) (by show w.heap.size ≤ w.heap.size; omega) _) (by show w.heap.size ≤ w.heap.size + 1; omega) _) (by show w.heap.size ≤ w.heap.size + 1; omega) _) (by show w.heap.size ≤ w.heap.size + 1; omega) _)
    clear hwf
    have CX0 : wf.cell? ⟨w.heap.size, 0, none⟩ = some (.bool s) := CX.out.cell 0
    have CX1 : wf.cell? ⟨w.heap.size, 1, none⟩ = some (.slice A (limbs n).length c) := CX.out.cell 1
    have CX2 : wf.cell? ⟨w.heap.size, 2, none⟩ = some (.slice B (limbs d0).length d) := CX.out.cell 2
    have CY0 : wf.cell? ⟨w.heap.size + 1, 0, none⟩ = some (.bool s') := CY.out.cell 0
    have CY1 : wf.cell? ⟨w.heap.size + 1, 1, none⟩ = some (.slice A' (limbs m).length c') := CY.out.cell 1
    have CY2 : wf.cell? ⟨w.heap.size + 1, 2, none⟩ = some (.slice B' (limbs f0).length d') := CY.out.cell 2
    go_wp2_with fail
    refine (add_of s s' A B A' B' _ _ _ _ c d c' d' _ (add_q (q := q1) (e := c1) false A B A' B' c d c' d' ⟨s, n, d0⟩ ⟨s', m, f0⟩ _ R1.out R2.out R3.out R4.out KC.out.1 KC.out.2.1 KC.out.2.2.1 KC.out.2.2.2 HQ.out.1 HQ.out.2.1 HP.out.1 HP.out.2.1 HQ.out.2.2 HP.out.2.2 V1.out.1 V1.out.2)).mono ?_
    rintro e w1 ⟨vs, vt, rfl, hns, hnt, hbl⟩
    replace R1 := Lib.hid (R1.out.below hbl)
    replace R2 := Lib.hid (R2.out.below hbl)
    replace R3 := Lib.hid (R3.out.below hbl)
    replace R4 := Lib.hid (R4.out.below hbl)
    replace CX := Lib.hid (CX.out.below hbl CX.out.lt)
    replace CY := Lib.hid (CY.out.below hbl CY.out.lt)
    replace HW := Lib.hid (bel_trans HW.out hbl); clear hbl
    clear CX0 CX1 CX2 CY0 CY1 CY2
    have CX0 : w1.cell? ⟨w.heap.size, 0, none⟩ = some (.bool s) := CX.out.cell 0
    have CX1 : w1.cell? ⟨w.heap.size, 1, none⟩ = some (.slice A (limbs n).length c) := CX.out.cell 1
    have CX2 : w1.cell? ⟨w.heap.size, 2, none⟩ = some (.slice B (limbs d0).length d) := CX.out.cell 2
    have CY0 : w1.cell? ⟨w.heap.size + 1, 0, none⟩ = some (.bool s') := CY.out.cell 0
    have CY1 : w1.cell? ⟨w.heap.size + 1, 1, none⟩ = some (.slice A' (limbs m).length c') := CY.out.cell 1
    have CY2 : w1.cell? ⟨w.heap.size + 1, 2, none⟩ = some (.slice B' (limbs f0).length d') := CY.out.cell 2
    have HNs := Lib.hid hns; clear hns
    obtain ⟨As, cs, rfl, hcs, hrs⟩ := HNs.out.row
    have Rs := Lib.hid hrs; have HCs := Lib.hid hcs; clear hrs hcs
    have HNt := Lib.hid hnt; clear hnt
    obtain ⟨At, ct, rfl, hct, hrt⟩ := HNt.out.row
    have Rt := Lib.hid hrt; have HCt := Lib.hid hct; clear hrt hct
    go_upto_region 3 with fail
    obtain ⟨wk1, hwk1⟩ : ∃ wk1, wk1 = w1.alloc (.cells #[.bool q1.s, .slice As (limbs q1.n).length cs, .slice At (limbs q1.d).length ct] 25) := ⟨_, rfl⟩
    rw [← hwk1]
    have hbl : Below w1.heap.size w1 wk1 := by rw [hwk1]; exact bel_alloc (bel_refl _) _
    have VS : Blk wk1 (w1.heap.size) 25 #[.bool q1.s, .slice As (limbs q1.n).length cs, .slice At (limbs q1.d).length ct] := by
      have hz := Blk.new (w1) 25 #[.bool q1.s, .slice As (limbs q1.n).length cs, .slice At (limbs q1.d).length ct]
      rw [hwk1]
      exact hz
    clear hwk1
    replace R1 := Lib.hid (R1.out.below hbl)
    replace R2 := Lib.hid (R2.out.below hbl)
    replace R3 := Lib.hid (R3.out.below hbl)
    replace R4 := Lib.hid (R4.out.below hbl)
    replace Rs := Lib.hid (Rs.out.below hbl)
    replace HNs := Lib.hid (HNs.out.below hbl)
    replace Rt := Lib.hid (Rt.out.below hbl)
    replace HNt := Lib.hid (HNt.out.below hbl)
    replace CX := Lib.hid (CX.out.below hbl CX.out.lt)
    replace CY := Lib.hid (CY.out.below hbl CY.out.lt)
    replace HW := Lib.hid (bel_trans HW.out hbl); clear hbl
    replace VS := Lib.hid VS
    clear CX0 CX1 CX2 CY0 CY1 CY2
    have CX0 : wk1.cell? ⟨w.heap.size, 0, none⟩ = some (.bool s) := CX.out.cell 0
    have CX1 : wk1.cell? ⟨w.heap.size, 1, none⟩ = some (.slice A (limbs n).length c) := CX.out.cell 1
    have CX2 : wk1.cell? ⟨w.heap.size, 2, none⟩ = some (.slice B (limbs d0).length d) := CX.out.cell 2
    have CY0 : wk1.cell? ⟨w.heap.size + 1, 0, none⟩ = some (.bool s') := CY.out.cell 0
    have CY1 : wk1.cell? ⟨w.heap.size + 1, 1, none⟩ = some (.slice A' (limbs m).length c') := CY.out.cell 1
    have CY2 : wk1.cell? ⟨w.heap.size + 1, 2, none⟩ = some (.slice B' (limbs f0).length d') := CY.out.cell 2
    have VS0 : wk1.cell? ⟨w1.heap.size, 0, none⟩ = some (.bool q1.s) := VS.out.cell 0
    have VS1 : wk1.cell? ⟨w1.heap.size, 1, none⟩ = some (.slice As (limbs q1.n).length cs) := VS.out.cell 1
    have VS2 : wk1.cell? ⟨w1.heap.size, 2, none⟩ = some (.slice At (limbs q1.d).length ct) := VS.out.cell 2
    go_wp2_with fail
    refine (sub_of s s' A B A' B' _ _ _ _ c d c' d' _ (add_q (q := q2) (e := c2) true A B A' B' c d c' d' ⟨s, n, d0⟩ ⟨s', m, f0⟩ _ R1.out R2.out R3.out R4.out KC.out.1 KC.out.2.1 KC.out.2.2.1 KC.out.2.2.2 HQ.out.1 HQ.out.2.1 HP.out.1 HP.out.2.1 HQ.out.2.2 HP.out.2.2 V2.out.1 V2.out.2)).mono ?_
    rintro e w2 ⟨vu, vv, rfl, hnu, hnv, hbl⟩
    replace R1 := Lib.hid (R1.out.below hbl)
    replace R2 := Lib.hid (R2.out.below hbl)
    replace R3 := Lib.hid (R3.out.below hbl)
    replace R4 := Lib.hid (R4.out.below hbl)
    replace Rs := Lib.hid (Rs.out.below hbl)
    replace HNs := Lib.hid (HNs.out.below hbl)
    replace Rt := Lib.hid (Rt.out.below hbl)
    replace HNt := Lib.hid (HNt.out.below hbl)
    replace CX := Lib.hid (CX.out.below hbl CX.out.lt)
    replace CY := Lib.hid (CY.out.below hbl CY.out.lt)
    replace VS := Lib.hid (VS.out.below hbl VS.out.lt)
    replace HW := Lib.hid (bel_trans HW.out hbl); clear hbl
    clear CX0 CX1 CX2 CY0 CY1 CY2 VS0 VS1 VS2
    have CX0 : w2.cell? ⟨w.heap.size, 0, none⟩ = some (.bool s) := CX.out.cell 0
    have CX1 : w2.cell? ⟨w.heap.size, 1, none⟩ = some (.slice A (limbs n).length c) := CX.out.cell 1
    have CX2 : w2.cell? ⟨w.heap.size, 2, none⟩ = some (.slice B (limbs d0).length d) := CX.out.cell 2
    have CY0 : w2.cell? ⟨w.heap.size + 1, 0, none⟩ = some (.bool s') := CY.out.cell 0
    have CY1 : w2.cell? ⟨w.heap.size + 1, 1, none⟩ = some (.slice A' (limbs m).length c') := CY.out.cell 1
    have CY2 : w2.cell? ⟨w.heap.size + 1, 2, none⟩ = some (.slice B' (limbs f0).length d') := CY.out.cell 2
    have VS0 : w2.cell? ⟨w1.heap.size, 0, none⟩ = some (.bool q1.s) := VS.out.cell 0
    have VS1 : w2.cell? ⟨w1.heap.size, 1, none⟩ = some (.slice As (limbs q1.n).length cs) := VS.out.cell 1
    have VS2 : w2.cell? ⟨w1.heap.size, 2, none⟩ = some (.slice At (limbs q1.d).length ct) := VS.out.cell 2
    have HNu := Lib.hid hnu; clear hnu
    obtain ⟨Au, cu, rfl, hcu, hru⟩ := HNu.out.row
    have Ru := Lib.hid hru; have HCu := Lib.hid hcu; clear hru hcu
    have HNv := Lib.hid hnv; clear hnv
    obtain ⟨Av, cv, rfl, hcv, hrv⟩ := HNv.out.row
    have Rv := Lib.hid hrv; have HCv := Lib.hid hcv; clear hrv hcv
    go_upto_region 4 with fail
    obtain ⟨wk2, hwk2⟩ : ∃ wk2, wk2 = w2.alloc (.cells #[.bool q2.s, .slice Au (limbs q2.n).length cu, .slice Av (limbs q2.d).length cv] 25) := ⟨_, rfl⟩
    rw [← hwk2]
    have hbl : Below w2.heap.size w2 wk2 := by rw [hwk2]; exact bel_alloc (bel_refl _) _
    have VD : Blk wk2 (w2.heap.size) 25 #[.bool q2.s, .slice Au (limbs q2.n).length cu, .slice Av (limbs q2.d).length cv] := by
      have hz := Blk.new (w2) 25 #[.bool q2.s, .slice Au (limbs q2.n).length cu, .slice Av (limbs q2.d).length cv]
      rw [hwk2]
      exact hz
    clear hwk2
    replace R1 := Lib.hid (R1.out.below hbl)
    replace R2 := Lib.hid (R2.out.below hbl)
    replace R3 := Lib.hid (R3.out.below hbl)
    replace R4 := Lib.hid (R4.out.below hbl)
    replace Rs := Lib.hid (Rs.out.below hbl)
    replace HNs := Lib.hid (HNs.out.below hbl)
    replace Rt := Lib.hid (Rt.out.below hbl)
    replace HNt := Lib.hid (HNt.out.below hbl)
    replace Ru := Lib.hid (Ru.out.below hbl)
    replace HNu := Lib.hid (HNu.out.below hbl)
    replace Rv := Lib.hid (Rv.out.below hbl)
    replace HNv := Lib.hid (HNv.out.below hbl)
    replace CX := Lib.hid (CX.out.below hbl CX.out.lt)
    replace CY := Lib.hid (CY.out.below hbl CY.out.lt)
    replace VS := Lib.hid (VS.out.below hbl VS.out.lt)
    replace HW := Lib.hid (bel_trans HW.out hbl); clear hbl
    replace VD := Lib.hid VD
    clear CX0 CX1 CX2 CY0 CY1 CY2 VS0 VS1 VS2
    have CX0 : wk2.cell? ⟨w.heap.size, 0, none⟩ = some (.bool s) := CX.out.cell 0
    have CX1 : wk2.cell? ⟨w.heap.size, 1, none⟩ = some (.slice A (limbs n).length c) := CX.out.cell 1
    have CX2 : wk2.cell? ⟨w.heap.size, 2, none⟩ = some (.slice B (limbs d0).length d) := CX.out.cell 2
    have CY0 : wk2.cell? ⟨w.heap.size + 1, 0, none⟩ = some (.bool s') := CY.out.cell 0
    have CY1 : wk2.cell? ⟨w.heap.size + 1, 1, none⟩ = some (.slice A' (limbs m).length c') := CY.out.cell 1
    have CY2 : wk2.cell? ⟨w.heap.size + 1, 2, none⟩ = some (.slice B' (limbs f0).length d') := CY.out.cell 2
    have VS0 : wk2.cell? ⟨w1.heap.size, 0, none⟩ = some (.bool q1.s) := VS.out.cell 0
    have VS1 : wk2.cell? ⟨w1.heap.size, 1, none⟩ = some (.slice As (limbs q1.n).length cs) := VS.out.cell 1
    have VS2 : wk2.cell? ⟨w1.heap.size, 2, none⟩ = some (.slice At (limbs q1.d).length ct) := VS.out.cell 2
    have VD0 : wk2.cell? ⟨w2.heap.size, 0, none⟩ = some (.bool q2.s) := VD.out.cell 0
    have VD1 : wk2.cell? ⟨w2.heap.size, 1, none⟩ = some (.slice Au (limbs q2.n).length cu) := VD.out.cell 1
    have VD2 : wk2.cell? ⟨w2.heap.size, 2, none⟩ = some (.slice Av (limbs q2.d).length cv) := VD.out.cell 2
    go_wp2_with fail
    refine (mul_walk A B A' B' c d c' d' ⟨s, n, d0⟩ ⟨s', m, f0⟩ _ R1.out R2.out R3.out R4.out KC.out.1 KC.out.2.1 KC.out.2.2.1 KC.out.2.2.2 HQ.out.1 HQ.out.2.1 HP.out.1 HP.out.2.1 HQ.out.2.2 HP.out.2.2 V3.out.1 V3.out.2).mono ?_
    rintro e w3 ⟨vp, vr, rfl, hnp, hnr, hbl⟩
    replace R1 := Lib.hid (R1.out.below hbl)
    replace R2 := Lib.hid (R2.out.below hbl)
    replace R3 := Lib.hid (R3.out.below hbl)
    replace R4 := Lib.hid (R4.out.below hbl)
    replace Rs := Lib.hid (Rs.out.below hbl)
    replace HNs := Lib.hid (HNs.out.below hbl)
    replace Rt := Lib.hid (Rt.out.below hbl)
    replace HNt := Lib.hid (HNt.out.below hbl)
    replace Ru := Lib.hid (Ru.out.below hbl)
    replace HNu := Lib.hid (HNu.out.below hbl)
    replace Rv := Lib.hid (Rv.out.below hbl)
    replace HNv := Lib.hid (HNv.out.below hbl)
    replace CX := Lib.hid (CX.out.below hbl CX.out.lt)
    replace CY := Lib.hid (CY.out.below hbl CY.out.lt)
    replace VS := Lib.hid (VS.out.below hbl VS.out.lt)
    replace VD := Lib.hid (VD.out.below hbl VD.out.lt)
    replace HW := Lib.hid (bel_trans HW.out hbl); clear hbl
    clear CX0 CX1 CX2 CY0 CY1 CY2 VS0 VS1 VS2 VD0 VD1 VD2
    have CX0 : w3.cell? ⟨w.heap.size, 0, none⟩ = some (.bool s) := CX.out.cell 0
    have CX1 : w3.cell? ⟨w.heap.size, 1, none⟩ = some (.slice A (limbs n).length c) := CX.out.cell 1
    have CX2 : w3.cell? ⟨w.heap.size, 2, none⟩ = some (.slice B (limbs d0).length d) := CX.out.cell 2
    have CY0 : w3.cell? ⟨w.heap.size + 1, 0, none⟩ = some (.bool s') := CY.out.cell 0
    have CY1 : w3.cell? ⟨w.heap.size + 1, 1, none⟩ = some (.slice A' (limbs m).length c') := CY.out.cell 1
    have CY2 : w3.cell? ⟨w.heap.size + 1, 2, none⟩ = some (.slice B' (limbs f0).length d') := CY.out.cell 2
    have VS0 : w3.cell? ⟨w1.heap.size, 0, none⟩ = some (.bool q1.s) := VS.out.cell 0
    have VS1 : w3.cell? ⟨w1.heap.size, 1, none⟩ = some (.slice As (limbs q1.n).length cs) := VS.out.cell 1
    have VS2 : w3.cell? ⟨w1.heap.size, 2, none⟩ = some (.slice At (limbs q1.d).length ct) := VS.out.cell 2
    have VD0 : w3.cell? ⟨w2.heap.size, 0, none⟩ = some (.bool q2.s) := VD.out.cell 0
    have VD1 : w3.cell? ⟨w2.heap.size, 1, none⟩ = some (.slice Au (limbs q2.n).length cu) := VD.out.cell 1
    have VD2 : w3.cell? ⟨w2.heap.size, 2, none⟩ = some (.slice Av (limbs q2.d).length cv) := VD.out.cell 2
    have HNp := Lib.hid hnp; clear hnp
    obtain ⟨Ap, cp, rfl, hcp, hrp⟩ := HNp.out.row
    have Rp := Lib.hid hrp; have HCp := Lib.hid hcp; clear hrp hcp
    have HNr := Lib.hid hnr; clear hnr
    obtain ⟨Ar, cr, rfl, hcr, hrr⟩ := HNr.out.row
    have Rr := Lib.hid hrr; have HCr := Lib.hid hcr; clear hrr hcr
    go_upto_region 5 with fail
    obtain ⟨wk3, hwk3⟩ : ∃ wk3, wk3 = w3.alloc (.cells #[.bool q3.s, .slice Ap (limbs q3.n).length cp, .slice Ar (limbs q3.d).length cr] 25) := ⟨_, rfl⟩
    rw [← hwk3]
    have hbl : Below w3.heap.size w3 wk3 := by rw [hwk3]; exact bel_alloc (bel_refl _) _
    have VP : Blk wk3 (w3.heap.size) 25 #[.bool q3.s, .slice Ap (limbs q3.n).length cp, .slice Ar (limbs q3.d).length cr] := by
      have hz := Blk.new (w3) 25 #[.bool q3.s, .slice Ap (limbs q3.n).length cp, .slice Ar (limbs q3.d).length cr]
      rw [hwk3]
      exact hz
    clear hwk3
    replace R1 := Lib.hid (R1.out.below hbl)
    replace R2 := Lib.hid (R2.out.below hbl)
    replace R3 := Lib.hid (R3.out.below hbl)
    replace R4 := Lib.hid (R4.out.below hbl)
    replace Rs := Lib.hid (Rs.out.below hbl)
    replace HNs := Lib.hid (HNs.out.below hbl)
    replace Rt := Lib.hid (Rt.out.below hbl)
    replace HNt := Lib.hid (HNt.out.below hbl)
    replace Ru := Lib.hid (Ru.out.below hbl)
    replace HNu := Lib.hid (HNu.out.below hbl)
    replace Rv := Lib.hid (Rv.out.below hbl)
    replace HNv := Lib.hid (HNv.out.below hbl)
    replace Rp := Lib.hid (Rp.out.below hbl)
    replace HNp := Lib.hid (HNp.out.below hbl)
    replace Rr := Lib.hid (Rr.out.below hbl)
    replace HNr := Lib.hid (HNr.out.below hbl)
    replace CX := Lib.hid (CX.out.below hbl CX.out.lt)
    replace CY := Lib.hid (CY.out.below hbl CY.out.lt)
    replace VS := Lib.hid (VS.out.below hbl VS.out.lt)
    replace VD := Lib.hid (VD.out.below hbl VD.out.lt)
    replace HW := Lib.hid (bel_trans HW.out hbl); clear hbl
    replace VP := Lib.hid VP
    clear CX0 CX1 CX2 CY0 CY1 CY2 VS0 VS1 VS2 VD0 VD1 VD2
    have CX0 : wk3.cell? ⟨w.heap.size, 0, none⟩ = some (.bool s) := CX.out.cell 0
    have CX1 : wk3.cell? ⟨w.heap.size, 1, none⟩ = some (.slice A (limbs n).length c) := CX.out.cell 1
    have CX2 : wk3.cell? ⟨w.heap.size, 2, none⟩ = some (.slice B (limbs d0).length d) := CX.out.cell 2
    have CY0 : wk3.cell? ⟨w.heap.size + 1, 0, none⟩ = some (.bool s') := CY.out.cell 0
    have CY1 : wk3.cell? ⟨w.heap.size + 1, 1, none⟩ = some (.slice A' (limbs m).length c') := CY.out.cell 1
    have CY2 : wk3.cell? ⟨w.heap.size + 1, 2, none⟩ = some (.slice B' (limbs f0).length d') := CY.out.cell 2
    have VS0 : wk3.cell? ⟨w1.heap.size, 0, none⟩ = some (.bool q1.s) := VS.out.cell 0
    have VS1 : wk3.cell? ⟨w1.heap.size, 1, none⟩ = some (.slice As (limbs q1.n).length cs) := VS.out.cell 1
    have VS2 : wk3.cell? ⟨w1.heap.size, 2, none⟩ = some (.slice At (limbs q1.d).length ct) := VS.out.cell 2
    have VD0 : wk3.cell? ⟨w2.heap.size, 0, none⟩ = some (.bool q2.s) := VD.out.cell 0
    have VD1 : wk3.cell? ⟨w2.heap.size, 1, none⟩ = some (.slice Au (limbs q2.n).length cu) := VD.out.cell 1
    have VD2 : wk3.cell? ⟨w2.heap.size, 2, none⟩ = some (.slice Av (limbs q2.d).length cv) := VD.out.cell 2
    have VP0 : wk3.cell? ⟨w3.heap.size, 0, none⟩ = some (.bool q3.s) := VP.out.cell 0
    have VP1 : wk3.cell? ⟨w3.heap.size, 1, none⟩ = some (.slice Ap (limbs q3.n).length cp) := VP.out.cell 1
    have VP2 : wk3.cell? ⟨w3.heap.size, 2, none⟩ = some (.slice Ar (limbs q3.d).length cr) := VP.out.cell 2
    go_wp2_with fail
    refine (quo_zero A B A' B' c d c' d' ⟨s, n, d0⟩ ⟨s', m, f0⟩ _ R1.out R2.out R3.out R4.out KC.out.1 KC.out.2.1 KC.out.2.2.1 KC.out.2.2.2 HQ.out.1 HQ.out.2.1 HP.out.1 HP.out.2.1 HQ.out.2.2 HP.out.2.2 HM0.out).mono ?_
    rintro e w4 ⟨vx, vy, rfl, hnx, hny, hbl⟩
    replace R1 := Lib.hid (R1.out.below hbl)
    replace R2 := Lib.hid (R2.out.below hbl)
    replace R3 := Lib.hid (R3.out.below hbl)
    replace R4 := Lib.hid (R4.out.below hbl)
    replace Rs := Lib.hid (Rs.out.below hbl)
    replace HNs := Lib.hid (HNs.out.below hbl)
    replace Rt := Lib.hid (Rt.out.below hbl)
    replace HNt := Lib.hid (HNt.out.below hbl)
    replace Ru := Lib.hid (Ru.out.below hbl)
    replace HNu := Lib.hid (HNu.out.below hbl)
    replace Rv := Lib.hid (Rv.out.below hbl)
    replace HNv := Lib.hid (HNv.out.below hbl)
    replace Rp := Lib.hid (Rp.out.below hbl)
    replace HNp := Lib.hid (HNp.out.below hbl)
    replace Rr := Lib.hid (Rr.out.below hbl)
    replace HNr := Lib.hid (HNr.out.below hbl)
    replace CX := Lib.hid (CX.out.below hbl CX.out.lt)
    replace CY := Lib.hid (CY.out.below hbl CY.out.lt)
    replace VS := Lib.hid (VS.out.below hbl VS.out.lt)
    replace VD := Lib.hid (VD.out.below hbl VD.out.lt)
    replace VP := Lib.hid (VP.out.below hbl VP.out.lt)
    replace HW := Lib.hid (bel_trans HW.out hbl); clear hbl
    clear CX0 CX1 CX2 CY0 CY1 CY2 VS0 VS1 VS2 VD0 VD1 VD2 VP0 VP1 VP2
    have CX0 : w4.cell? ⟨w.heap.size, 0, none⟩ = some (.bool s) := CX.out.cell 0
    have CX1 : w4.cell? ⟨w.heap.size, 1, none⟩ = some (.slice A (limbs n).length c) := CX.out.cell 1
    have CX2 : w4.cell? ⟨w.heap.size, 2, none⟩ = some (.slice B (limbs d0).length d) := CX.out.cell 2
    have CY0 : w4.cell? ⟨w.heap.size + 1, 0, none⟩ = some (.bool s') := CY.out.cell 0
    have CY1 : w4.cell? ⟨w.heap.size + 1, 1, none⟩ = some (.slice A' (limbs m).length c') := CY.out.cell 1
    have CY2 : w4.cell? ⟨w.heap.size + 1, 2, none⟩ = some (.slice B' (limbs f0).length d') := CY.out.cell 2
    have VS0 : w4.cell? ⟨w1.heap.size, 0, none⟩ = some (.bool q1.s) := VS.out.cell 0
    have VS1 : w4.cell? ⟨w1.heap.size, 1, none⟩ = some (.slice As (limbs q1.n).length cs) := VS.out.cell 1
    have VS2 : w4.cell? ⟨w1.heap.size, 2, none⟩ = some (.slice At (limbs q1.d).length ct) := VS.out.cell 2
    have VD0 : w4.cell? ⟨w2.heap.size, 0, none⟩ = some (.bool q2.s) := VD.out.cell 0
    have VD1 : w4.cell? ⟨w2.heap.size, 1, none⟩ = some (.slice Au (limbs q2.n).length cu) := VD.out.cell 1
    have VD2 : w4.cell? ⟨w2.heap.size, 2, none⟩ = some (.slice Av (limbs q2.d).length cv) := VD.out.cell 2
    have VP0 : w4.cell? ⟨w3.heap.size, 0, none⟩ = some (.bool q3.s) := VP.out.cell 0
    have VP1 : w4.cell? ⟨w3.heap.size, 1, none⟩ = some (.slice Ap (limbs q3.n).length cp) := VP.out.cell 1
    have VP2 : w4.cell? ⟨w3.heap.size, 2, none⟩ = some (.slice Ar (limbs q3.d).length cr) := VP.out.cell 2
    have HNx := Lib.hid hnx; clear hnx
    obtain ⟨Ax, cx, rfl, hcx, hrx⟩ := HNx.out.row
    have Rx := Lib.hid hrx; have HCx := Lib.hid hcx; clear hrx hcx
    have HNy := Lib.hid hny; clear hny
    obtain ⟨Ay, cy, rfl, hcy, hry⟩ := HNy.out.row
    have Ry := Lib.hid hry; have HCy := Lib.hid hcy; clear hry hcy
    rw [show noQ.s = false from rfl, show noQ.n = 0 from rfl, show noQ.d = 0 from rfl, limbs0]
    go_upto_region 7 with fail
    obtain ⟨wk4, hwk4⟩ : ∃ wk4, wk4 = (w4.alloc (.cells #[.bool false, .slice Ax 0 cx, .slice Ay 0 cy] 25)).alloc (.cells #[.bool false, .slice none 0 0, .slice none 0 0] 25) := ⟨_, rfl⟩
    rw [← hwk4]
    have hbl : Below w4.heap.size w4 wk4 := by rw [hwk4]; exact bel_alloc (bel_alloc (bel_refl _) _) _
    have VQ : Blk wk4 (w4.heap.size) 25 #[.bool false, .slice Ax 0 cx, .slice Ay 0 cy] := by
      have hz := Blk.new (w4) 25 #[.bool false, .slice Ax 0 cx, .slice Ay 0 cy]
      rw [hwk4]
      exact (hz.alloc _)
    have VN : Blk wk4 (w4.heap.size + 1) 25 #[.bool false, .slice none 0 0, .slice none 0 0] := by
      have hz := Blk.new (w4.alloc (.cells #[.bool false, .slice Ax 0 cx, .slice Ay 0 cy] 25)) 25 #[.bool false, .slice none 0 0, .slice none 0 0]
      rw [World.size_alloc] at hz
      rw [hwk4]
      exact hz
    clear hwk4
    replace R1 := Lib.hid (R1.out.below hbl)
    replace R2 := Lib.hid (R2.out.below hbl)
    replace R3 := Lib.hid (R3.out.below hbl)
    replace R4 := Lib.hid (R4.out.below hbl)
    replace Rs := Lib.hid (Rs.out.below hbl)
    replace HNs := Lib.hid (HNs.out.below hbl)
    replace Rt := Lib.hid (Rt.out.below hbl)
    replace HNt := Lib.hid (HNt.out.below hbl)
    replace Ru := Lib.hid (Ru.out.below hbl)
    replace HNu := Lib.hid (HNu.out.below hbl)
    replace Rv := Lib.hid (Rv.out.below hbl)
    replace HNv := Lib.hid (HNv.out.below hbl)
    replace Rp := Lib.hid (Rp.out.below hbl)
    replace HNp := Lib.hid (HNp.out.below hbl)
    replace Rr := Lib.hid (Rr.out.below hbl)
    replace HNr := Lib.hid (HNr.out.below hbl)
    replace Rx := Lib.hid (Rx.out.below hbl)
    replace HNx := Lib.hid (HNx.out.below hbl)
    replace Ry := Lib.hid (Ry.out.below hbl)
    replace HNy := Lib.hid (HNy.out.below hbl)
    replace CX := Lib.hid (CX.out.below hbl CX.out.lt)
    replace CY := Lib.hid (CY.out.below hbl CY.out.lt)
    replace VS := Lib.hid (VS.out.below hbl VS.out.lt)
    replace VD := Lib.hid (VD.out.below hbl VD.out.lt)
    replace VP := Lib.hid (VP.out.below hbl VP.out.lt)
    replace HW := Lib.hid (bel_trans HW.out hbl); clear hbl
    replace VQ := Lib.hid VQ
    replace VN := Lib.hid VN
    clear CX0 CX1 CX2 CY0 CY1 CY2 VS0 VS1 VS2 VD0 VD1 VD2 VP0 VP1 VP2
    have CX0 : wk4.cell? ⟨w.heap.size, 0, none⟩ = some (.bool s) := CX.out.cell 0
    have CX1 : wk4.cell? ⟨w.heap.size, 1, none⟩ = some (.slice A (limbs n).length c) := CX.out.cell 1
    have CX2 : wk4.cell? ⟨w.heap.size, 2, none⟩ = some (.slice B (limbs d0).length d) := CX.out.cell 2
    have CY0 : wk4.cell? ⟨w.heap.size + 1, 0, none⟩ = some (.bool s') := CY.out.cell 0
    have CY1 : wk4.cell? ⟨w.heap.size + 1, 1, none⟩ = some (.slice A' (limbs m).length c') := CY.out.cell 1
    have CY2 : wk4.cell? ⟨w.heap.size + 1, 2, none⟩ = some (.slice B' (limbs f0).length d') := CY.out.cell 2
    have VS0 : wk4.cell? ⟨w1.heap.size, 0, none⟩ = some (.bool q1.s) := VS.out.cell 0
    have VS1 : wk4.cell? ⟨w1.heap.size, 1, none⟩ = some (.slice As (limbs q1.n).length cs) := VS.out.cell 1
    have VS2 : wk4.cell? ⟨w1.heap.size, 2, none⟩ = some (.slice At (limbs q1.d).length ct) := VS.out.cell 2
    have VD0 : wk4.cell? ⟨w2.heap.size, 0, none⟩ = some (.bool q2.s) := VD.out.cell 0
    have VD1 : wk4.cell? ⟨w2.heap.size, 1, none⟩ = some (.slice Au (limbs q2.n).length cu) := VD.out.cell 1
    have VD2 : wk4.cell? ⟨w2.heap.size, 2, none⟩ = some (.slice Av (limbs q2.d).length cv) := VD.out.cell 2
    have VP0 : wk4.cell? ⟨w3.heap.size, 0, none⟩ = some (.bool q3.s) := VP.out.cell 0
    have VP1 : wk4.cell? ⟨w3.heap.size, 1, none⟩ = some (.slice Ap (limbs q3.n).length cp) := VP.out.cell 1
    have VP2 : wk4.cell? ⟨w3.heap.size, 2, none⟩ = some (.slice Ar (limbs q3.d).length cr) := VP.out.cell 2
    have VQ0 : wk4.cell? ⟨w4.heap.size, 0, none⟩ = some (.bool false) := VQ.out.cell 0
    have VQ1 : wk4.cell? ⟨w4.heap.size, 1, none⟩ = some (.slice Ax 0 cx) := VQ.out.cell 1
    have VQ2 : wk4.cell? ⟨w4.heap.size, 2, none⟩ = some (.slice Ay 0 cy) := VQ.out.cell 2
    have VN0 : wk4.cell? ⟨w4.heap.size + 1, 0, none⟩ = some (.bool false) := VN.out.cell 0
    have VN1 : wk4.cell? ⟨w4.heap.size + 1, 1, none⟩ = some (.slice none 0 0) := VN.out.cell 1
    have VN2 : wk4.cell? ⟨w4.heap.size + 1, 2, none⟩ = some (.slice none 0 0) := VN.out.cell 2
    go_wp2_with fail
    refine (refRatRight_is s A B c d (limbs n) (limbs d0) _ R1.out R2.out M.out.1 M.out.2.1 L18.out.1 L18.out.2.1 HRA.out).mono ?_
    rintro e w5 ⟨rfl, hbl⟩
    replace R1 := Lib.hid (R1.out.below hbl)
    replace R2 := Lib.hid (R2.out.below hbl)
    replace R3 := Lib.hid (R3.out.below hbl)
    replace R4 := Lib.hid (R4.out.below hbl)
    replace Rs := Lib.hid (Rs.out.below hbl)
    replace HNs := Lib.hid (HNs.out.below hbl)
    replace Rt := Lib.hid (Rt.out.below hbl)
    replace HNt := Lib.hid (HNt.out.below hbl)
    replace Ru := Lib.hid (Ru.out.below hbl)
    replace HNu := Lib.hid (HNu.out.below hbl)
    replace Rv := Lib.hid (Rv.out.below hbl)
    replace HNv := Lib.hid (HNv.out.below hbl)
    replace Rp := Lib.hid (Rp.out.below hbl)
    replace HNp := Lib.hid (HNp.out.below hbl)
    replace Rr := Lib.hid (Rr.out.below hbl)
    replace HNr := Lib.hid (HNr.out.below hbl)
    replace Rx := Lib.hid (Rx.out.below hbl)
    replace HNx := Lib.hid (HNx.out.below hbl)
    replace Ry := Lib.hid (Ry.out.below hbl)
    replace HNy := Lib.hid (HNy.out.below hbl)
    replace CX := Lib.hid (CX.out.below hbl CX.out.lt)
    replace CY := Lib.hid (CY.out.below hbl CY.out.lt)
    replace VS := Lib.hid (VS.out.below hbl VS.out.lt)
    replace VD := Lib.hid (VD.out.below hbl VD.out.lt)
    replace VP := Lib.hid (VP.out.below hbl VP.out.lt)
    replace VQ := Lib.hid (VQ.out.below hbl VQ.out.lt)
    replace VN := Lib.hid (VN.out.below hbl VN.out.lt)
    replace HW := Lib.hid (bel_trans HW.out hbl); clear hbl
    clear CX0 CX1 CX2 CY0 CY1 CY2 VS0 VS1 VS2 VD0 VD1 VD2 VP0 VP1 VP2 VQ0 VQ1 VQ2 VN0 VN1 VN2
    have CX0 : w5.cell? ⟨w.heap.size, 0, none⟩ = some (.bool s) := CX.out.cell 0
    have CX1 : w5.cell? ⟨w.heap.size, 1, none⟩ = some (.slice A (limbs n).length c) := CX.out.cell 1
    have CX2 : w5.cell? ⟨w.heap.size, 2, none⟩ = some (.slice B (limbs d0).length d) := CX.out.cell 2
    have CY0 : w5.cell? ⟨w.heap.size + 1, 0, none⟩ = some (.bool s') := CY.out.cell 0
    have CY1 : w5.cell? ⟨w.heap.size + 1, 1, none⟩ = some (.slice A' (limbs m).length c') := CY.out.cell 1
    have CY2 : w5.cell? ⟨w.heap.size + 1, 2, none⟩ = some (.slice B' (limbs f0).length d') := CY.out.cell 2
    have VS0 : w5.cell? ⟨w1.heap.size, 0, none⟩ = some (.bool q1.s) := VS.out.cell 0
    have VS1 : w5.cell? ⟨w1.heap.size, 1, none⟩ = some (.slice As (limbs q1.n).length cs) := VS.out.cell 1
    have VS2 : w5.cell? ⟨w1.heap.size, 2, none⟩ = some (.slice At (limbs q1.d).length ct) := VS.out.cell 2
    have VD0 : w5.cell? ⟨w2.heap.size, 0, none⟩ = some (.bool q2.s) := VD.out.cell 0
    have VD1 : w5.cell? ⟨w2.heap.size, 1, none⟩ = some (.slice Au (limbs q2.n).length cu) := VD.out.cell 1
    have VD2 : w5.cell? ⟨w2.heap.size, 2, none⟩ = some (.slice Av (limbs q2.d).length cv) := VD.out.cell 2
    have VP0 : w5.cell? ⟨w3.heap.size, 0, none⟩ = some (.bool q3.s) := VP.out.cell 0
    have VP1 : w5.cell? ⟨w3.heap.size, 1, none⟩ = some (.slice Ap (limbs q3.n).length cp) := VP.out.cell 1
    have VP2 : w5.cell? ⟨w3.heap.size, 2, none⟩ = some (.slice Ar (limbs q3.d).length cr) := VP.out.cell 2
    have VQ0 : w5.cell? ⟨w4.heap.size, 0, none⟩ = some (.bool false) := VQ.out.cell 0
    have VQ1 : w5.cell? ⟨w4.heap.size, 1, none⟩ = some (.slice Ax 0 cx) := VQ.out.cell 1
    have VQ2 : w5.cell? ⟨w4.heap.size, 2, none⟩ = some (.slice Ay 0 cy) := VQ.out.cell 2
    have VN0 : w5.cell? ⟨w4.heap.size + 1, 0, none⟩ = some (.bool false) := VN.out.cell 0
    have VN1 : w5.cell? ⟨w4.heap.size + 1, 1, none⟩ = some (.slice none 0 0) := VN.out.cell 1
    have VN2 : w5.cell? ⟨w4.heap.size + 1, 2, none⟩ = some (.slice none 0 0) := VN.out.cell 2
    go_wp2_with fail
    refine (refRatRight_is s' A' B' c' d' (limbs m) (limbs f0) _ R3.out R4.out M.out.2.2.1 M.out.2.2.2 L18.out.2.2.1 L18.out.2.2.2 HRB.out).mono ?_
    rintro e w6 ⟨rfl, hbl⟩
    replace R1 := Lib.hid (R1.out.below hbl)
    replace R2 := Lib.hid (R2.out.below hbl)
    replace R3 := Lib.hid (R3.out.below hbl)
    replace R4 := Lib.hid (R4.out.below hbl)
    replace Rs := Lib.hid (Rs.out.below hbl)
    replace HNs := Lib.hid (HNs.out.below hbl)
    replace Rt := Lib.hid (Rt.out.below hbl)
    replace HNt := Lib.hid (HNt.out.below hbl)
    replace Ru := Lib.hid (Ru.out.below hbl)
    replace HNu := Lib.hid (HNu.out.below hbl)
    replace Rv := Lib.hid (Rv.out.below hbl)
    replace HNv := Lib.hid (HNv.out.below hbl)
    replace Rp := Lib.hid (Rp.out.below hbl)
    replace HNp := Lib.hid (HNp.out.below hbl)
    replace Rr := Lib.hid (Rr.out.below hbl)
    replace HNr := Lib.hid (HNr.out.below hbl)
    replace Rx := Lib.hid (Rx.out.below hbl)
    replace HNx := Lib.hid (HNx.out.below hbl)
    replace Ry := Lib.hid (Ry.out.below hbl)
    replace HNy := Lib.hid (HNy.out.below hbl)
    replace CX := Lib.hid (CX.out.below hbl CX.out.lt)
    replace CY := Lib.hid (CY.out.below hbl CY.out.lt)
    replace VS := Lib.hid (VS.out.below hbl VS.out.lt)
    replace VD := Lib.hid (VD.out.below hbl VD.out.lt)
    replace VP := Lib.hid (VP.out.below hbl VP.out.lt)
    replace VQ := Lib.hid (VQ.out.below hbl VQ.out.lt)
    replace VN := Lib.hid (VN.out.below hbl VN.out.lt)
    replace HW := Lib.hid (bel_trans HW.out hbl); clear hbl
    clear CX0 CX1 CX2 CY0 CY1 CY2 VS0 VS1 VS2 VD0 VD1 VD2 VP0 VP1 VP2 VQ0 VQ1 VQ2 VN0 VN1 VN2
    have CX0 : w6.cell? ⟨w.heap.size, 0, none⟩ = some (.bool s) := CX.out.cell 0
    have CX1 : w6.cell? ⟨w.heap.size, 1, none⟩ = some (.slice A (limbs n).length c) := CX.out.cell 1
    have CX2 : w6.cell? ⟨w.heap.size, 2, none⟩ = some (.slice B (limbs d0).length d) := CX.out.cell 2
    have CY0 : w6.cell? ⟨w.heap.size + 1, 0, none⟩ = some (.bool s') := CY.out.cell 0
    have CY1 : w6.cell? ⟨w.heap.size + 1, 1, none⟩ = some (.slice A' (limbs m).length c') := CY.out.cell 1
    have CY2 : w6.cell? ⟨w.heap.size + 1, 2, none⟩ = some (.slice B' (limbs f0).length d') := CY.out.cell 2
    have VS0 : w6.cell? ⟨w1.heap.size, 0, none⟩ = some (.bool q1.s) := VS.out.cell 0
    have VS1 : w6.cell? ⟨w1.heap.size, 1, none⟩ = some (.slice As (limbs q1.n).length cs) := VS.out.cell 1
    have VS2 : w6.cell? ⟨w1.heap.size, 2, none⟩ = some (.slice At (limbs q1.d).length ct) := VS.out.cell 2
    have VD0 : w6.cell? ⟨w2.heap.size, 0, none⟩ = some (.bool q2.s) := VD.out.cell 0
    have VD1 : w6.cell? ⟨w2.heap.size, 1, none⟩ = some (.slice Au (limbs q2.n).length cu) := VD.out.cell 1
    have VD2 : w6.cell? ⟨w2.heap.size, 2, none⟩ = some (.slice Av (limbs q2.d).length cv) := VD.out.cell 2
    have VP0 : w6.cell? ⟨w3.heap.size, 0, none⟩ = some (.bool q3.s) := VP.out.cell 0
    have VP1 : w6.cell? ⟨w3.heap.size, 1, none⟩ = some (.slice Ap (limbs q3.n).length cp) := VP.out.cell 1
    have VP2 : w6.cell? ⟨w3.heap.size, 2, none⟩ = some (.slice Ar (limbs q3.d).length cr) := VP.out.cell 2
    have VQ0 : w6.cell? ⟨w4.heap.size, 0, none⟩ = some (.bool false) := VQ.out.cell 0
    have VQ1 : w6.cell? ⟨w4.heap.size, 1, none⟩ = some (.slice Ax 0 cx) := VQ.out.cell 1
    have VQ2 : w6.cell? ⟨w4.heap.size, 2, none⟩ = some (.slice Ay 0 cy) := VQ.out.cell 2
    have VN0 : w6.cell? ⟨w4.heap.size + 1, 0, none⟩ = some (.bool false) := VN.out.cell 0
    have VN1 : w6.cell? ⟨w4.heap.size + 1, 1, none⟩ = some (.slice none 0 0) := VN.out.cell 1
    have VN2 : w6.cell? ⟨w4.heap.size + 1, 2, none⟩ = some (.slice none 0 0) := VN.out.cell 2
    go_wp2_with fail
    have lCX : w.heap.size < w6.heap.size := CX.out.lt
    have lCY : w.heap.size + 1 < w6.heap.size := CY.out.lt
    have lVS : w1.heap.size < w6.heap.size := VS.out.lt
    have lVD : w2.heap.size < w6.heap.size := VD.out.lt
    have lVP : w3.heap.size < w6.heap.size := VP.out.lt
    have lVQ : w4.heap.size < w6.heap.size := VQ.out.lt
    have lVN : w4.heap.size + 1 < w6.heap.size := VN.out.lt
    have lW : w.heap.size ≤ w6.heap.size := HW.out.size
    refine wp_region_typedR 6 (TOf [VIs (.agg #[.bool s, .slice A (limbs n).length c, .slice B (limbs d0).length d]),
        VIs (.agg #[.bool s, .string (dec n), .string (dec d0), .bool false]),
        VIs (.agg #[.bool s', .slice A' (limbs m).length c', .slice B' (limbs f0).length d']),
        VIs (.agg #[.bool s', .string (dec m), .string (dec f0), .bool false]),
        VNewF w6.heap.size 49 #[.bool false, .string ⟨#[]⟩, .string ⟨#[]⟩, .bool false],
        VNewF w6.heap.size 49 #[.bool false, .string ⟨#[]⟩, .string ⟨#[]⟩, .bool false]]) (fun i j => (i = 4 ∧ j = 5) ∨ (i = 5 ∧ j = 4)) (fun i j h => by omega) (by kernel_rfl) (by kernel_rfl) (by kernel_rfl) (LiftAll.at_ (.cons (VIs.lift _) (.cons (VIs.lift _) (.cons (VIs.lift _) (.cons (VIs.lift _) (.cons (VNewF.lift _ _ _) (.cons (VNewF.lift _ _ _) .nil))))))) (stepsR_all (stepsR_cons ?_ (stepsR_cons ?_ (stepsR_cons ?_ (stepsR_cons ?_ (stepsR_cons ?_ (stepsR_cons ?_ stepsR_zero))))))) ?fin
    · refine stepR_plain rfl (by intro j h; omega) ?_
      intro a0 w9 K9 hF hB hK hC
      have b2 := hF.base (k := 2) (v := .pointer (some ⟨w.heap.size, 0, none⟩)) (by kernel_rfl) rfl
      have x90 : w9.cell? ⟨w.heap.size, 0, none⟩ = some (.bool s) := (CX.out.below hB CX.out.lt).cell 0
      have x91 : w9.cell? ⟨w.heap.size, 1, none⟩ = some (.slice A (limbs n).length c) := (CX.out.below hB CX.out.lt).cell 1
      have x92 : w9.cell? ⟨w.heap.size, 2, none⟩ = some (.slice B (limbs d0).length d) := (CX.out.below hB CX.out.lt).cell 2
      clear hF hB hK
      go_simp
      exact hC _ _ (bel_refl _) fun _ _ => rfl
    · refine stepR_plain rfl (by intro j h; omega) ?_
      intro a0 w9 K9 hF hB hK hC
      obtain ⟨v90, e90, z90⟩ := dep hK 0 (g := .data) (j := 0) (k := 90) rfl rfl rfl
      have z90 : v90 = .agg #[.bool s, .slice A (limbs n).length c, .slice B (limbs d0).length d] := z90
      subst z90
      have HB9 := Lib.hid hB
      clear hF hB hK
      go_simp
      refine (refOf_any s A B c d n d0 _ (R1.out.below HB9.out) (R2.out.below HB9.out) HQ.out.1 HQ.out.2.1).mono ?_
      rintro e w7 ⟨rfl, hbl⟩
      exact hC _ _ hbl fun _ _ => rfl
    · refine stepR_plain rfl (by intro j h; omega) ?_
      intro a0 w9 K9 hF hB hK hC
      have b3 := hF.base (k := 3) (v := .pointer (some ⟨w.heap.size + 1, 0, none⟩)) (by kernel_rfl) rfl
      have x90 : w9.cell? ⟨w.heap.size + 1, 0, none⟩ = some (.bool s') := (CY.out.below hB CY.out.lt).cell 0
      have x91 : w9.cell? ⟨w.heap.size + 1, 1, none⟩ = some (.slice A' (limbs m).length c') := (CY.out.below hB CY.out.lt).cell 1
      have x92 : w9.cell? ⟨w.heap.size + 1, 2, none⟩ = some (.slice B' (limbs f0).length d') := (CY.out.below hB CY.out.lt).cell 2
      clear hF hB hK
      go_simp
      exact hC _ _ (bel_refl _) fun _ _ => rfl
    · refine stepR_plain rfl (by intro j h; omega) ?_
      intro a0 w9 K9 hF hB hK hC
      obtain ⟨v92, e92, z92⟩ := dep hK 0 (g := .data) (j := 2) (k := 92) rfl rfl rfl
      have z92 : v92 = .agg #[.bool s', .slice A' (limbs m).length c', .slice B' (limbs f0).length d'] := z92
      subst z92
      have HB9 := Lib.hid hB
      clear hF hB hK
      go_simp
      refine (refOf_any s' A' B' c' d' m f0 _ (R3.out.below HB9.out) (R4.out.below HB9.out) HP.out.1 HP.out.2.1).mono ?_
      rintro e w7 ⟨rfl, hbl⟩
      exact hC _ _ hbl fun _ _ => rfl
    · refine stepR_apart rfl ?_
      intro a0 w9 K9 hF hB hK hC
      have HB9 := Lib.hid hB
      clear hF hB hK
      go_simp
      exact hC _ _ (bel_alloc (bel_refl _) _) (fun _ _ => ⟨_, rfl, HB9.out.size, Blk.new _ _ _⟩) (fun j hj oj kj uj _ _ _ ht => by
        obtain rfl : j = 5 := by omega
        exact apart_new (show VNewF _ _ _ _ _ from ht))
    · refine stepR_apart rfl ?_
      intro a0 w9 K9 hF hB hK hC
      have HB9 := Lib.hid hB
      clear hF hB hK
      go_simp
      exact hC _ _ (bel_alloc (bel_refl _) _) (fun _ _ => ⟨_, rfl, HB9.out.size, Blk.new _ _ _⟩) (fun j hj oj kj uj _ _ _ ht => by
        obtain rfl : j = 4 := by omega
        exact apart_new (show VNewF _ _ _ _ _ from ht))
    case fin =>
      intro a0 w9 hF hB hK hA
      have b2 := hF.base (k := 2) (v := .pointer (some ⟨w.heap.size, 0, none⟩)) (by kernel_rfl) rfl
      have b3 := hF.base (k := 3) (v := .pointer (some ⟨w.heap.size + 1, 0, none⟩)) (by kernel_rfl) rfl
      have b6 := hF.base (k := 6) (v := .int .i64 c1) (by kernel_rfl) rfl
      have b8 := hF.base (k := 8) (v := .int .i64 c2) (by kernel_rfl) rfl
      have b10 := hF.base (k := 10) (v := .int .i64 c3) (by kernel_rfl) rfl
      have b12 := hF.base (k := 12) (v := .int .i64 4) (by kernel_rfl) rfl
      have b5 := hF.base (k := 5) (v := .pointer (some ⟨w1.heap.size, 0, none⟩)) (by kernel_rfl) rfl
      have b7 := hF.base (k := 7) (v := .pointer (some ⟨w2.heap.size, 0, none⟩)) (by kernel_rfl) rfl
      have b9 := hF.base (k := 9) (v := .pointer (some ⟨w3.heap.size, 0, none⟩)) (by kernel_rfl) rfl
      have b11 := hF.base (k := 11) (v := .pointer (some ⟨w4.heap.size, 0, none⟩)) (by kernel_rfl) rfl
      have b13 := hF.base (k := 13) (v := .pointer (some ⟨w4.heap.size + 1, 0, none⟩)) (by kernel_rfl) rfl
      have hsz := hF.size
      have hdf := hF.defers
      clear hF
      obtain ⟨v14, e14, z14⟩ := known hK 4 (k := 14) (by decide) rfl
      have z14 : ∃ g, v14 = .pointer (some ⟨g, 0, none⟩) ∧ w6.heap.size ≤ g ∧ Blk w9 g 49 #[.bool false, .string ⟨#[]⟩, .string ⟨#[]⟩, .bool false] := z14
      obtain ⟨g14, rfl, hg14, FX14⟩ := z14
      obtain ⟨v15, e15, z15⟩ := known hK 5 (k := 15) (by decide) rfl
      have z15 : ∃ g, v15 = .pointer (some ⟨g, 0, none⟩) ∧ w6.heap.size ≤ g ∧ Blk w9 g 49 #[.bool false, .string ⟨#[]⟩, .string ⟨#[]⟩, .bool false] := z15
      obtain ⟨g15, rfl, hg15, FX15⟩ := z15
      obtain ⟨v91, e91, z91⟩ := known hK 1 (k := 91) (by decide) rfl
      have z91 : v91 = .agg #[.bool s, .string (dec n), .string (dec d0), .bool false] := z91
      subst z91
      obtain ⟨v93, e93, z93⟩ := known hK 3 (k := 93) (by decide) rfl
      have z93 : v93 = .agg #[.bool s', .string (dec m), .string (dec f0), .bool false] := z93
      subst z93
      have hne := hA 4 5 (by decide) (by decide) (Or.inl ⟨rfl, rfl⟩) _ _ 14 15 _ _ rfl rfl rfl rfl e14 e15
      have hgg : g15 ≠ g14 := fun h => hne (by rw [h])
      clear hne
      clear hK hA
      obtain ⟨⟨l0⟩, df⟩ := a0
      have hs0 : l0.length = 140 := hsz
      clear hsz
      replace hdf : df = _ := hdf
      subst hdf
      obtain ⟨u, rfl⟩ := lits_140 hs0
      clear hs0
      have q2 : u 2 = _ := Option.some.inj b2
      clear b2
      have q3 : u 3 = _ := Option.some.inj b3
      clear b3
      have q6 : u 6 = _ := Option.some.inj b6
      clear b6
      have q8 : u 8 = _ := Option.some.inj b8
      clear b8
      have q10 : u 10 = _ := Option.some.inj b10
      clear b10
      have q12 : u 12 = _ := Option.some.inj b12
      clear b12
      have q5 : u 5 = _ := Option.some.inj b5
      clear b5
      have q7 : u 7 = _ := Option.some.inj b7
      clear b7
      have q9 : u 9 = _ := Option.some.inj b9
      clear b9
      have q11 : u 11 = _ := Option.some.inj b11
      clear b11
      have q13 : u 13 = _ := Option.some.inj b13
      clear b13
      have q14 : u 14 = _ := Option.some.inj e14
      clear e14
      have q15 : u 15 = _ := Option.some.inj e15
      clear e15
      have q91 : u 91 = _ := Option.some.inj e91
      clear e91
      have q93 : u 93 = _ := Option.some.inj e93
      clear e93
      rw [q2, q3, q6, q8, q10, q12, q5, q7, q9, q11, q13, q14, q15, q91, q93]
      clear q2 q3 q6 q8 q10 q12 q5 q7 q9 q11 q13 q14 q15 q91 q93
      have hbl := hB; clear hB
      replace R1 := Lib.hid (R1.out.below hbl)
      replace R2 := Lib.hid (R2.out.below hbl)
      replace R3 := Lib.hid (R3.out.below hbl)
      replace R4 := Lib.hid (R4.out.below hbl)
      replace Rs := Lib.hid (Rs.out.below hbl)
      replace HNs := Lib.hid (HNs.out.below hbl)
      replace Rt := Lib.hid (Rt.out.below hbl)
      replace HNt := Lib.hid (HNt.out.below hbl)
      replace Ru := Lib.hid (Ru.out.below hbl)
      replace HNu := Lib.hid (HNu.out.below hbl)
      replace Rv := Lib.hid (Rv.out.below hbl)
      replace HNv := Lib.hid (HNv.out.below hbl)
      replace Rp := Lib.hid (Rp.out.below hbl)
      replace HNp := Lib.hid (HNp.out.below hbl)
      replace Rr := Lib.hid (Rr.out.below hbl)
      replace HNr := Lib.hid (HNr.out.below hbl)
      replace Rx := Lib.hid (Rx.out.below hbl)
      replace HNx := Lib.hid (HNx.out.below hbl)
      replace Ry := Lib.hid (Ry.out.below hbl)
      replace HNy := Lib.hid (HNy.out.below hbl)
      replace CX := Lib.hid (CX.out.below hbl CX.out.lt)
      replace CY := Lib.hid (CY.out.below hbl CY.out.lt)
      replace VS := Lib.hid (VS.out.below hbl VS.out.lt)
      replace VD := Lib.hid (VD.out.below hbl VD.out.lt)
      replace VP := Lib.hid (VP.out.below hbl VP.out.lt)
      replace VQ := Lib.hid (VQ.out.below hbl VQ.out.lt)
      replace VN := Lib.hid (VN.out.below hbl VN.out.lt)
      replace HW := Lib.hid (bel_trans HW.out hbl); clear hbl
      clear CX0 CX1 CX2 CY0 CY1 CY2 VS0 VS1 VS2 VD0 VD1 VD2 VP0 VP1 VP2 VQ0 VQ1 VQ2 VN0 VN1 VN2
      have CX0 : w9.cell? ⟨w.heap.size, 0, none⟩ = some (.bool s) := CX.out.cell 0
      have CX1 : w9.cell? ⟨w.heap.size, 1, none⟩ = some (.slice A (limbs n).length c) := CX.out.cell 1
      have CX2 : w9.cell? ⟨w.heap.size, 2, none⟩ = some (.slice B (limbs d0).length d) := CX.out.cell 2
      have CY0 : w9.cell? ⟨w.heap.size + 1, 0, none⟩ = some (.bool s') := CY.out.cell 0
      have CY1 : w9.cell? ⟨w.heap.size + 1, 1, none⟩ = some (.slice A' (limbs m).length c') := CY.out.cell 1
      have CY2 : w9.cell? ⟨w.heap.size + 1, 2, none⟩ = some (.slice B' (limbs f0).length d') := CY.out.cell 2
      have VS0 : w9.cell? ⟨w1.heap.size, 0, none⟩ = some (.bool q1.s) := VS.out.cell 0
      have VS1 : w9.cell? ⟨w1.heap.size, 1, none⟩ = some (.slice As (limbs q1.n).length cs) := VS.out.cell 1
      have VS2 : w9.cell? ⟨w1.heap.size, 2, none⟩ = some (.slice At (limbs q1.d).length ct) := VS.out.cell 2
      have VD0 : w9.cell? ⟨w2.heap.size, 0, none⟩ = some (.bool q2.s) := VD.out.cell 0
      have VD1 : w9.cell? ⟨w2.heap.size, 1, none⟩ = some (.slice Au (limbs q2.n).length cu) := VD.out.cell 1
      have VD2 : w9.cell? ⟨w2.heap.size, 2, none⟩ = some (.slice Av (limbs q2.d).length cv) := VD.out.cell 2
      have VP0 : w9.cell? ⟨w3.heap.size, 0, none⟩ = some (.bool q3.s) := VP.out.cell 0
      have VP1 : w9.cell? ⟨w3.heap.size, 1, none⟩ = some (.slice Ap (limbs q3.n).length cp) := VP.out.cell 1
      have VP2 : w9.cell? ⟨w3.heap.size, 2, none⟩ = some (.slice Ar (limbs q3.d).length cr) := VP.out.cell 2
      have VQ0 : w9.cell? ⟨w4.heap.size, 0, none⟩ = some (.bool false) := VQ.out.cell 0
      have VQ1 : w9.cell? ⟨w4.heap.size, 1, none⟩ = some (.slice Ax 0 cx) := VQ.out.cell 1
      have VQ2 : w9.cell? ⟨w4.heap.size, 2, none⟩ = some (.slice Ay 0 cy) := VQ.out.cell 2
      have VN0 : w9.cell? ⟨w4.heap.size + 1, 0, none⟩ = some (.bool false) := VN.out.cell 0
      have VN1 : w9.cell? ⟨w4.heap.size + 1, 1, none⟩ = some (.slice none 0 0) := VN.out.cell 1
      have VN2 : w9.cell? ⟨w4.heap.size + 1, 2, none⟩ = some (.slice none 0 0) := VN.out.cell 2
      simp only [List.drop_succ_cons, List.drop_zero]
      replace FX14 := Lib.hid FX14
      replace FX15 := Lib.hid FX15
      clear CX0 CX1 CX2 CY0 CY1 CY2 VS0 VS1 VS2 VD0 VD1 VD2 VP0 VP1 VP2 VQ0 VQ1 VQ2 VN0 VN1 VN2
      have d140 := FX14.out.cell 0
      have f140 := FX14.out.frozen 0
      have d141 := FX14.out.cell 1
      have f141 := FX14.out.frozen 1
      have d142 := FX14.out.cell 2
      have f142 := FX14.out.frozen 2
      have d143 := FX14.out.cell 3
      have f143 := FX14.out.frozen 3
      have d150 := FX15.out.cell 0
      have f150 := FX15.out.frozen 0
      have d151 := FX15.out.cell 1
      have f151 := FX15.out.frozen 1
      have d152 := FX15.out.cell 2
      have f152 := FX15.out.frozen 2
      have d153 := FX15.out.cell 3
      have f153 := FX15.out.frozen 3
      go_upto_region 10 with fail
      clear d140 f140 d141 f141 d142 f142 d143 f143 d150 f150 d151 f151 d152 f152 d153 f153
      obtain ⟨wg, hwg⟩ : ∃ wg, wg = ((((((((w9.setCell ⟨g14, 0, none⟩ (.bool s)).setCell ⟨g14, 1, none⟩ (.string (dec n))).setCell ⟨g14, 2, none⟩ (.string (dec d0))).setCell ⟨g14, 3, none⟩ (.bool false)).setCell ⟨g15, 0, none⟩ (.bool s')).setCell ⟨g15, 1, none⟩ (.string (dec m))).setCell ⟨g15, 2, none⟩ (.string (dec f0))).setCell ⟨g15, 3, none⟩ (.bool false)) := ⟨_, rfl⟩
      rw [← hwg]
      replace R1 := Lib.hid (show RdL wg _ _ by rw [hwg]; exact RdL.set4 (((((FX15.out).far (p := ⟨g14, 0, none⟩) (by simp; omega) _).far (p := ⟨g14, 1, none⟩) (by simp; omega) _).far (p := ⟨g14, 2, none⟩) (by simp; omega) _).far (p := ⟨g14, 3, none⟩) (by simp; omega) _) (RdL.set4 (FX14.out) (R1.out) _ _ _ _) _ _ _ _)
      replace R2 := Lib.hid (show RdL wg _ _ by rw [hwg]; exact RdL.set4 (((((FX15.out).far (p := ⟨g14, 0, none⟩) (by simp; omega) _).far (p := ⟨g14, 1, none⟩) (by simp; omega) _).far (p := ⟨g14, 2, none⟩) (by simp; omega) _).far (p := ⟨g14, 3, none⟩) (by simp; omega) _) (RdL.set4 (FX14.out) (R2.out) _ _ _ _) _ _ _ _)
      replace R3 := Lib.hid (show RdL wg _ _ by rw [hwg]; exact RdL.set4 (((((FX15.out).far (p := ⟨g14, 0, none⟩) (by simp; omega) _).far (p := ⟨g14, 1, none⟩) (by simp; omega) _).far (p := ⟨g14, 2, none⟩) (by simp; omega) _).far (p := ⟨g14, 3, none⟩) (by simp; omega) _) (RdL.set4 (FX14.out) (R3.out) _ _ _ _) _ _ _ _)
      replace R4 := Lib.hid (show RdL wg _ _ by rw [hwg]; exact RdL.set4 (((((FX15.out).far (p := ⟨g14, 0, none⟩) (by simp; omega) _).far (p := ⟨g14, 1, none⟩) (by simp; omega) _).far (p := ⟨g14, 2, none⟩) (by simp; omega) _).far (p := ⟨g14, 3, none⟩) (by simp; omega) _) (RdL.set4 (FX14.out) (R4.out) _ _ _ _) _ _ _ _)
      replace Rs := Lib.hid (show RdL wg _ _ by rw [hwg]; exact RdL.set4 (((((FX15.out).far (p := ⟨g14, 0, none⟩) (by simp; omega) _).far (p := ⟨g14, 1, none⟩) (by simp; omega) _).far (p := ⟨g14, 2, none⟩) (by simp; omega) _).far (p := ⟨g14, 3, none⟩) (by simp; omega) _) (RdL.set4 (FX14.out) (Rs.out) _ _ _ _) _ _ _ _)
      replace HNs := Lib.hid (show RdN wg _ _ by rw [hwg]; exact RdN.set4 (((((FX15.out).far (p := ⟨g14, 0, none⟩) (by simp; omega) _).far (p := ⟨g14, 1, none⟩) (by simp; omega) _).far (p := ⟨g14, 2, none⟩) (by simp; omega) _).far (p := ⟨g14, 3, none⟩) (by simp; omega) _) (RdN.set4 (FX14.out) (HNs.out) _ _ _ _) _ _ _ _)
      replace Rt := Lib.hid (show RdL wg _ _ by rw [hwg]; exact RdL.set4 (((((FX15.out).far (p := ⟨g14, 0, none⟩) (by simp; omega) _).far (p := ⟨g14, 1, none⟩) (by simp; omega) _).far (p := ⟨g14, 2, none⟩) (by simp; omega) _).far (p := ⟨g14, 3, none⟩) (by simp; omega) _) (RdL.set4 (FX14.out) (Rt.out) _ _ _ _) _ _ _ _)
      replace HNt := Lib.hid (show RdN wg _ _ by rw [hwg]; exact RdN.set4 (((((FX15.out).far (p := ⟨g14, 0, none⟩) (by simp; omega) _).far (p := ⟨g14, 1, none⟩) (by simp; omega) _).far (p := ⟨g14, 2, none⟩) (by simp; omega) _).far (p := ⟨g14, 3, none⟩) (by simp; omega) _) (RdN.set4 (FX14.out) (HNt.out) _ _ _ _) _ _ _ _)
      replace Ru := Lib.hid (show RdL wg _ _ by rw [hwg]; exact RdL.set4 (((((FX15.out).far (p := ⟨g14, 0, none⟩) (by simp; omega) _).far (p := ⟨g14, 1, none⟩) (by simp; omega) _).far (p := ⟨g14, 2, none⟩) (by simp; omega) _).far (p := ⟨g14, 3, none⟩) (by simp; omega) _) (RdL.set4 (FX14.out) (Ru.out) _ _ _ _) _ _ _ _)
      replace HNu := Lib.hid (show RdN wg _ _ by rw [hwg]; exact RdN.set4 (((((FX15.out).far (p := ⟨g14, 0, none⟩) (by simp; omega) _).far (p := ⟨g14, 1, none⟩) (by simp; omega) _).far (p := ⟨g14, 2, none⟩) (by simp; omega) _).far (p := ⟨g14, 3, none⟩) (by simp; omega) _) (RdN.set4 (FX14.out) (HNu.out) _ _ _ _) _ _ _ _)
      replace Rv := Lib.hid (show RdL wg _ _ by rw [hwg]; exact RdL.set4 (((((FX15.out).far (p := ⟨g14, 0, none⟩) (by simp; omega) _).far (p := ⟨g14, 1, none⟩) (by simp; omega) _).far (p := ⟨g14, 2, none⟩) (by simp; omega) _).far (p := ⟨g14, 3, none⟩) (by simp; omega) _) (RdL.set4 (FX14.out) (Rv.out) _ _ _ _) _ _ _ _)
      replace HNv := Lib.hid (show RdN wg _ _ by rw [hwg]; exact RdN.set4 (((((FX15.out).far (p := ⟨g14, 0, none⟩) (by simp; omega) _).far (p := ⟨g14, 1, none⟩) (by simp; omega) _).far (p := ⟨g14, 2, none⟩) (by simp; omega) _).far (p := ⟨g14, 3, none⟩) (by simp; omega) _) (RdN.set4 (FX14.out) (HNv.out) _ _ _ _) _ _ _ _)
      replace Rp := Lib.hid (show RdL wg _ _ by rw [hwg]; exact RdL.set4 (((((FX15.out).far (p := ⟨g14, 0, none⟩) (by simp; omega) _).far (p := ⟨g14, 1, none⟩) (by simp; omega) _).far (p := ⟨g14, 2, none⟩) (by simp; omega) _).far (p := ⟨g14, 3, none⟩) (by simp; omega) _) (RdL.set4 (FX14.out) (Rp.out) _ _ _ _) _ _ _ _)
      replace HNp := Lib.hid (show RdN wg _ _ by rw [hwg]; exact RdN.set4 (((((FX15.out).far (p := ⟨g14, 0, none⟩) (by simp; omega) _).far (p := ⟨g14, 1, none⟩) (by simp; omega) _).far (p := ⟨g14, 2, none⟩) (by simp; omega) _).far (p := ⟨g14, 3, none⟩) (by simp; omega) _) (RdN.set4 (FX14.out) (HNp.out) _ _ _ _) _ _ _ _)
      replace Rr := Lib.hid (show RdL wg _ _ by rw [hwg]; exact RdL.set4 (((((FX15.out).far (p := ⟨g14, 0, none⟩) (by simp; omega) _).far (p := ⟨g14, 1, none⟩) (by simp; omega) _).far (p := ⟨g14, 2, none⟩) (by simp; omega) _).far (p := ⟨g14, 3, none⟩) (by simp; omega) _) (RdL.set4 (FX14.out) (Rr.out) _ _ _ _) _ _ _ _)
      replace HNr := Lib.hid (show RdN wg _ _ by rw [hwg]; exact RdN.set4 (((((FX15.out).far (p := ⟨g14, 0, none⟩) (by simp; omega) _).far (p := ⟨g14, 1, none⟩) (by simp; omega) _).far (p := ⟨g14, 2, none⟩) (by simp; omega) _).far (p := ⟨g14, 3, none⟩) (by simp; omega) _) (RdN.set4 (FX14.out) (HNr.out) _ _ _ _) _ _ _ _)
      replace Rx := Lib.hid (show RdL wg _ _ by rw [hwg]; exact RdL.set4 (((((FX15.out).far (p := ⟨g14, 0, none⟩) (by simp; omega) _).far (p := ⟨g14, 1, none⟩) (by simp; omega) _).far (p := ⟨g14, 2, none⟩) (by simp; omega) _).far (p := ⟨g14, 3, none⟩) (by simp; omega) _) (RdL.set4 (FX14.out) (Rx.out) _ _ _ _) _ _ _ _)
      replace HNx := Lib.hid (show RdN wg _ _ by rw [hwg]; exact RdN.set4 (((((FX15.out).far (p := ⟨g14, 0, none⟩) (by simp; omega) _).far (p := ⟨g14, 1, none⟩) (by simp; omega) _).far (p := ⟨g14, 2, none⟩) (by simp; omega) _).far (p := ⟨g14, 3, none⟩) (by simp; omega) _) (RdN.set4 (FX14.out) (HNx.out) _ _ _ _) _ _ _ _)
      replace Ry := Lib.hid (show RdL wg _ _ by rw [hwg]; exact RdL.set4 (((((FX15.out).far (p := ⟨g14, 0, none⟩) (by simp; omega) _).far (p := ⟨g14, 1, none⟩) (by simp; omega) _).far (p := ⟨g14, 2, none⟩) (by simp; omega) _).far (p := ⟨g14, 3, none⟩) (by simp; omega) _) (RdL.set4 (FX14.out) (Ry.out) _ _ _ _) _ _ _ _)
      replace HNy := Lib.hid (show RdN wg _ _ by rw [hwg]; exact RdN.set4 (((((FX15.out).far (p := ⟨g14, 0, none⟩) (by simp; omega) _).far (p := ⟨g14, 1, none⟩) (by simp; omega) _).far (p := ⟨g14, 2, none⟩) (by simp; omega) _).far (p := ⟨g14, 3, none⟩) (by simp; omega) _) (RdN.set4 (FX14.out) (HNy.out) _ _ _ _) _ _ _ _)
      have CX_ := Lib.hid (show Blk wg (w.heap.size) 25 #[.bool s, .slice A (limbs n).length c, .slice B (limbs d0).length d] by rw [hwg]; exact ((((((((CX.out).far (p := ⟨g14, 0, none⟩) (by simp; omega) _).far (p := ⟨g14, 1, none⟩) (by simp; omega) _).far (p := ⟨g14, 2, none⟩) (by simp; omega) _).far (p := ⟨g14, 3, none⟩) (by simp; omega) _).far (p := ⟨g15, 0, none⟩) (by simp; omega) _).far (p := ⟨g15, 1, none⟩) (by simp; omega) _).far (p := ⟨g15, 2, none⟩) (by simp; omega) _).far (p := ⟨g15, 3, none⟩) (by simp; omega) _)
      have CY_ := Lib.hid (show Blk wg (w.heap.size + 1) 25 #[.bool s', .slice A' (limbs m).length c', .slice B' (limbs f0).length d'] by rw [hwg]; exact ((((((((CY.out).far (p := ⟨g14, 0, none⟩) (by simp; omega) _).far (p := ⟨g14, 1, none⟩) (by simp; omega) _).far (p := ⟨g14, 2, none⟩) (by simp; omega) _).far (p := ⟨g14, 3, none⟩) (by simp; omega) _).far (p := ⟨g15, 0, none⟩) (by simp; omega) _).far (p := ⟨g15, 1, none⟩) (by simp; omega) _).far (p := ⟨g15, 2, none⟩) (by simp; omega) _).far (p := ⟨g15, 3, none⟩) (by simp; omega) _)
      have VS_ := Lib.hid (show Blk wg (w1.heap.size) 25 #[.bool q1.s, .slice As (limbs q1.n).length cs, .slice At (limbs q1.d).length ct] by rw [hwg]; exact ((((((((VS.out).far (p := ⟨g14, 0, none⟩) (by simp; omega) _).far (p := ⟨g14, 1, none⟩) (by simp; omega) _).far (p := ⟨g14, 2, none⟩) (by simp; omega) _).far (p := ⟨g14, 3, none⟩) (by simp; omega) _).far (p := ⟨g15, 0, none⟩) (by simp; omega) _).far (p := ⟨g15, 1, none⟩) (by simp; omega) _).far (p := ⟨g15, 2, none⟩) (by simp; omega) _).far (p := ⟨g15, 3, none⟩) (by simp; omega) _)
      have VD_ := Lib.hid (show Blk wg (w2.heap.size) 25 #[.bool q2.s, .slice Au (limbs q2.n).length cu, .slice Av (limbs q2.d).length cv] by rw [hwg]; exact ((((((((VD.out).far (p := ⟨g14, 0, none⟩) (by simp; omega) _).far (p := ⟨g14, 1, none⟩) (by simp; omega) _).far (p := ⟨g14, 2, none⟩) (by simp; omega) _).far (p := ⟨g14, 3, none⟩) (by simp; omega) _).far (p := ⟨g15, 0, none⟩) (by simp; omega) _).far (p := ⟨g15, 1, none⟩) (by simp; omega) _).far (p := ⟨g15, 2, none⟩) (by simp; omega) _).far (p := ⟨g15, 3, none⟩) (by simp; omega) _)
      have VP_ := Lib.hid (show Blk wg (w3.heap.size) 25 #[.bool q3.s, .slice Ap (limbs q3.n).length cp, .slice Ar (limbs q3.d).length cr] by rw [hwg]; exact ((((((((VP.out).far (p := ⟨g14, 0, none⟩) (by simp; omega) _).far (p := ⟨g14, 1, none⟩) (by simp; omega) _).far (p := ⟨g14, 2, none⟩) (by simp; omega) _).far (p := ⟨g14, 3, none⟩) (by simp; omega) _).far (p := ⟨g15, 0, none⟩) (by simp; omega) _).far (p := ⟨g15, 1, none⟩) (by simp; omega) _).far (p := ⟨g15, 2, none⟩) (by simp; omega) _).far (p := ⟨g15, 3, none⟩) (by simp; omega) _)
      have VQ_ := Lib.hid (show Blk wg (w4.heap.size) 25 #[.bool false, .slice Ax 0 cx, .slice Ay 0 cy] by rw [hwg]; exact ((((((((VQ.out).far (p := ⟨g14, 0, none⟩) (by simp; omega) _).far (p := ⟨g14, 1, none⟩) (by simp; omega) _).far (p := ⟨g14, 2, none⟩) (by simp; omega) _).far (p := ⟨g14, 3, none⟩) (by simp; omega) _).far (p := ⟨g15, 0, none⟩) (by simp; omega) _).far (p := ⟨g15, 1, none⟩) (by simp; omega) _).far (p := ⟨g15, 2, none⟩) (by simp; omega) _).far (p := ⟨g15, 3, none⟩) (by simp; omega) _)
      have VN_ := Lib.hid (show Blk wg (w4.heap.size + 1) 25 #[.bool false, .slice none 0 0, .slice none 0 0] by rw [hwg]; exact ((((((((VN.out).far (p := ⟨g14, 0, none⟩) (by simp; omega) _).far (p := ⟨g14, 1, none⟩) (by simp; omega) _).far (p := ⟨g14, 2, none⟩) (by simp; omega) _).far (p := ⟨g14, 3, none⟩) (by simp; omega) _).far (p := ⟨g15, 0, none⟩) (by simp; omega) _).far (p := ⟨g15, 1, none⟩) (by simp; omega) _).far (p := ⟨g15, 2, none⟩) (by simp; omega) _).far (p := ⟨g15, 3, none⟩) (by simp; omega) _)
      have FX14_ := Lib.hid (show Blk wg (g14) 49 #[.bool s, .string (dec n), .string (dec d0), .bool false] by rw [hwg]; exact ((((((((FX14.out).put 0 (.bool s)).put 1 (.string (dec n))).put 2 (.string (dec d0))).put 3 (.bool false)).far (p := ⟨g15, 0, none⟩) (by simp; omega) _).far (p := ⟨g15, 1, none⟩) (by simp; omega) _).far (p := ⟨g15, 2, none⟩) (by simp; omega) _).far (p := ⟨g15, 3, none⟩) (by simp; omega) _)
      have FX15_ := Lib.hid (show Blk wg (g15) 49 #[.bool s', .string (dec m), .string (dec f0), .bool false] by rw [hwg]; exact ((((((((FX15.out).far (p := ⟨g14, 0, none⟩) (by simp; omega) _).far (p := ⟨g14, 1, none⟩) (by simp; omega) _).far (p := ⟨g14, 2, none⟩) (by simp; omega) _).far (p := ⟨g14, 3, none⟩) (by simp; omega) _).put 0 (.bool s')).put 1 (.string (dec m))).put 2 (.string (dec f0))).put 3 (.bool false))
      replace CX := CX_; clear CX_
      replace CY := CY_; clear CY_
      replace VS := VS_; clear VS_
      replace VD := VD_; clear VD_
      replace VP := VP_; clear VP_
      replace VQ := VQ_; clear VQ_
      replace VN := VN_; clear VN_
      replace FX14 := FX14_; clear FX14_
      replace FX15 := FX15_; clear FX15_
      replace HW := Lib.hid (show Below w.heap.size w wg by rw [hwg]; exact bel_set (p := ⟨g15, 3, none⟩) (bel_set (p := ⟨g15, 2, none⟩) (bel_set (p := ⟨g15, 1, none⟩) (bel_set (p := ⟨g15, 0, none⟩) (bel_set (p := ⟨g14, 3, none⟩) (bel_set (p := ⟨g14, 2, none⟩) (bel_set (p := ⟨g14, 1, none⟩) (bel_set (p := ⟨g14, 0, none⟩) (HW.out) (by show w.heap.size ≤ g14; omega) _) (by show w.heap.size ≤ g14; omega) _) (by show w.heap.size ≤ g14; omega) _) (by show w.heap.size ≤ g14; omega) _) (by show w.heap.size ≤ g15; omega) _) (by show w.heap.size ≤ g15; omega) _) (by show w.heap.size ≤ g15; omega) _) (by show w.heap.size ≤ g15; omega) _)
      clear hwg
      refine wp_region_typedG 30 (TOf [VIs (.agg #[.bool q1.s, .slice As (limbs q1.n).length cs, .slice At (limbs q1.d).length ct]),
          VIs (.int .i64 c1),
          VIs (.agg #[.bool s, .string (dec n), .string (dec d0), .bool false]),
          VIs (.agg #[.bool s', .string (dec m), .string (dec f0), .bool false]),
          VIs (.agg #[.bool f1.s, .string (dec f1.n), .string (dec f1.d), .bool ov1]),
          VIs (.bool true),
          VIs (.bool false),
          VIs (.bool false),
          VIs (.agg #[.bool q2.s, .slice Au (limbs q2.n).length cu, .slice Av (limbs q2.d).length cv]),
          VIs (.int .i64 c2),
          VIs (.agg #[.bool s, .string (dec n), .string (dec d0), .bool false]),
          VIs (.agg #[.bool s', .string (dec m), .string (dec f0), .bool false]),
          VIs (.agg #[.bool (!s'), .string (dec m), .string (dec f0), .bool false]),
          VIs (.agg #[.bool f2.s, .string (dec f2.n), .string (dec f2.d), .bool ov2]),
          VIs (.bool true),
          VIs (.bool false),
          VIs (.bool false),
          VIs (.bool false),
          VIs (.agg #[.bool q3.s, .slice Ap (limbs q3.n).length cp, .slice Ar (limbs q3.d).length cr]),
          VIs (.int .i64 c3),
          VIs (.agg #[.bool s, .string (dec n), .string (dec d0), .bool false]),
          VIs (.agg #[.bool s', .string (dec m), .string (dec f0), .bool false]),
          VIs (.agg #[.bool f3.s, .string (dec f3.n), .string (dec f3.d), .bool ov3]),
          VIs (.bool true),
          VIs (.bool false),
          VIs (.bool false),
          VIs (.bool false),
          VIs (.bool true),
          VIs (.bool false),
          VIs (.bool false)]) (by kernel_rfl) (by kernel_rfl) (by kernel_rfl) (LiftAll.at_ (.cons (VIs.lift _) (.cons (VIs.lift _) (.cons (VIs.lift _) (.cons (VIs.lift _) (.cons (VIs.lift _) (.cons (VIs.lift _) (.cons (VIs.lift _) (.cons (VIs.lift _) (.cons (VIs.lift _) (.cons (VIs.lift _) (.cons (VIs.lift _) (.cons (VIs.lift _) (.cons (VIs.lift _) (.cons (VIs.lift _) (.cons (VIs.lift _) (.cons (VIs.lift _) (.cons (VIs.lift _) (.cons (VIs.lift _) (.cons (VIs.lift _) (.cons (VIs.lift _) (.cons (VIs.lift _) (.cons (VIs.lift _) (.cons (VIs.lift _) (.cons (VIs.lift _) (.cons (VIs.lift _) (.cons (VIs.lift _) (.cons (VIs.lift _) (.cons (VIs.lift _) (.cons (VIs.lift _) (.cons (VIs.lift _) .nil))))))))))))))))))))))))))))))) (stepsG_all (stepsG_cons ?_ (stepsG_cons ?_ (stepsG_cons ?_ (stepsG_cons ?_ (stepsG_cons ?_ (stepsG_cons ?_ (stepsG_cons ?_ (stepsG_cons ?_ (stepsG_cons ?_ (stepsG_cons ?_ (stepsG_cons ?_ (stepsG_cons ?_ (stepsG_cons ?_ (stepsG_cons ?_ (stepsG_cons ?_ (stepsG_cons ?_ (stepsG_cons ?_ (stepsG_cons ?_ (stepsG_cons ?_ (stepsG_cons ?_ (stepsG_cons ?_ (stepsG_cons ?_ (stepsG_cons ?_ (stepsG_cons ?_ (stepsG_cons ?_ (stepsG_cons ?_ (stepsG_cons ?_ (stepsG_cons ?_ (stepsG_cons ?_ (stepsG_cons ?_ stepsG_zero))))))))))))))))))))))))))))))) ?fin
      · refine stepG_plain rfl ?_
        intro a0 w9 K9 hF hB hK hC
        have b5 := hF.base (k := 5) (v := .pointer (some ⟨w1.heap.size, 0, none⟩)) (by kernel_rfl) rfl
        have x90 : w9.cell? ⟨w1.heap.size, 0, none⟩ = some (.bool q1.s) := (VS.out.below hB VS.out.lt).cell 0
        have x91 : w9.cell? ⟨w1.heap.size, 1, none⟩ = some (.slice As (limbs q1.n).length cs) := (VS.out.below hB VS.out.lt).cell 1
        have x92 : w9.cell? ⟨w1.heap.size, 2, none⟩ = some (.slice At (limbs q1.d).length ct) := (VS.out.below hB VS.out.lt).cell 2
        clear hF hB hK
        go_simp
        exact hC _ _ (bel_refl _) fun _ _ => rfl
      · refine stepG_plain rfl ?_
        intro a0 w9 K9 hF hB hK hC
        have b6 := hF.base (k := 6) (v := .int .i64 c1) (by kernel_rfl) rfl
        clear hF hB hK
        go_simp
        exact hC _ _ (bel_refl _) fun _ _ => rfl
      · refine stepG_plain rfl ?_
        intro a0 w9 K9 hF hB hK hC
        have b14 := hF.base (k := 14) (v := .pointer (some ⟨g14, 0, none⟩)) (by kernel_rfl) rfl
        have x90 : w9.cell? ⟨g14, 0, none⟩ = some (.bool s) := (FX14.out.below hB FX14.out.lt).cell 0
        have x91 : w9.cell? ⟨g14, 1, none⟩ = some (.string (dec n)) := (FX14.out.below hB FX14.out.lt).cell 1
        have x92 : w9.cell? ⟨g14, 2, none⟩ = some (.string (dec d0)) := (FX14.out.below hB FX14.out.lt).cell 2
        have x93 : w9.cell? ⟨g14, 3, none⟩ = some (.bool false) := (FX14.out.below hB FX14.out.lt).cell 3
        clear hF hB hK
        go_simp
        exact hC _ _ (bel_refl _) fun _ _ => rfl
      · refine stepG_plain rfl ?_
        intro a0 w9 K9 hF hB hK hC
        have b15 := hF.base (k := 15) (v := .pointer (some ⟨g15, 0, none⟩)) (by kernel_rfl) rfl
        have x90 : w9.cell? ⟨g15, 0, none⟩ = some (.bool s') := (FX15.out.below hB FX15.out.lt).cell 0
        have x91 : w9.cell? ⟨g15, 1, none⟩ = some (.string (dec m)) := (FX15.out.below hB FX15.out.lt).cell 1
        have x92 : w9.cell? ⟨g15, 2, none⟩ = some (.string (dec f0)) := (FX15.out.below hB FX15.out.lt).cell 2
        have x93 : w9.cell? ⟨g15, 3, none⟩ = some (.bool false) := (FX15.out.below hB FX15.out.lt).cell 3
        clear hF hB hK
        go_simp
        exact hC _ _ (bel_refl _) fun _ _ => rfl
      · refine stepG_plain rfl ?_
        intro a0 w9 K9 hF hB hK hC
        obtain ⟨v96, e96, z96⟩ := dep hK 0 (g := .data) (j := 2) (k := 96) rfl rfl rfl
        have z96 : v96 = .agg #[.bool s, .string (dec n), .string (dec d0), .bool false] := z96
        subst z96
        obtain ⟨v97, e97, z97⟩ := dep hK 1 (g := .data) (j := 3) (k := 97) rfl rfl rfl
        have z97 : v97 = .agg #[.bool s', .string (dec m), .string (dec f0), .bool false] := z97
        subst z97
        have HB9 := Lib.hid hB
        clear hF hB hK
        go_simp
        refine (ref_add (q := f1) (k := ov1) ⟨s, n, d0⟩ ⟨s', m, f0⟩ _ DL.out.1 DL.out.2.1 DL.out.2.2.1 DL.out.2.2.2 (by have := E1.out.1; rw [Bool.bne_false] at this; exact this) E1.out.2).mono ?_
        rintro e w7 ⟨rfl, hbl⟩
        exact hC _ _ hbl fun _ _ => rfl
      · refine stepG_plain rfl ?_
        intro a0 w9 K9 hF hB hK hC
        obtain ⟨v94, e94, z94⟩ := dep hK 0 (g := .data) (j := 0) (k := 94) rfl rfl rfl
        have z94 : v94 = .agg #[.bool q1.s, .slice As (limbs q1.n).length cs, .slice At (limbs q1.d).length ct] := z94
        subst z94
        obtain ⟨v95, e95, z95⟩ := dep hK 1 (g := .data) (j := 1) (k := 95) rfl rfl rfl
        have z95 : v95 = .int .i64 c1 := z95
        subst z95
        obtain ⟨v98, e98, z98⟩ := dep hK 2 (g := .data) (j := 4) (k := 98) rfl rfl rfl
        have z98 : v98 = .agg #[.bool f1.s, .string (dec f1.n), .string (dec f1.d), .bool ov1] := z98
        subst z98
        have HB9 := Lib.hid hB
        clear hF hB hK
        go_simp
        refine (isQ_ans A1.out As At cs ct _ (Rs.out.below HB9.out) (Rt.out.below HB9.out)).mono ?_
        rintro e w7 ⟨rfl, hbl⟩
        exact hC _ _ hbl fun _ _ => rfl
      · refine stepG_plain rfl ?_
        intro a0 w9 K9 hF hB hK hC
        obtain ⟨v99, e99, z99⟩ := dep hK 0 (g := .data) (j := 5) (k := 99) rfl rfl rfl
        have z99 : v99 = .bool true := z99
        subst z99
        have HB9 := Lib.hid hB
        clear hF hB hK
        go_simp
        exact hC _ _ (bel_refl _) fun _ _ => rfl
      · refine stepG_plain rfl ?_
        intro a0 w9 K9 hF hB hK hC
        obtain ⟨v100, e100, z100⟩ := dep hK 0 (g := .data) (j := 6) (k := 100) rfl rfl rfl
        have z100 : v100 = .bool false := z100
        subst z100
        clear hF hB hK
        go_simp
        exact hC _ _ (bel_refl _) fun _ _ => rfl
      · intro a0 w9 K9 hF hB hK hC
        obtain ⟨vg, eg, zg⟩ := dep hK 0 (g := .guard) (j := 7) (k := 101) rfl rfl rfl
        have zg : vg = .bool false := zg
        subst zg
        refine guard_in (j := 7) (k := 101) (want := false) rfl rfl eg rfl ?_
        have b7 := hF.base (k := 7) (v := .pointer (some ⟨w2.heap.size, 0, none⟩)) (by kernel_rfl) rfl
        have x90 : w9.cell? ⟨w2.heap.size, 0, none⟩ = some (.bool q2.s) := (VD.out.below hB VD.out.lt).cell 0
        have x91 : w9.cell? ⟨w2.heap.size, 1, none⟩ = some (.slice Au (limbs q2.n).length cu) := (VD.out.below hB VD.out.lt).cell 1
        have x92 : w9.cell? ⟨w2.heap.size, 2, none⟩ = some (.slice Av (limbs q2.d).length cv) := (VD.out.below hB VD.out.lt).cell 2
        clear hF hB hK
        go_simp
        exact hC _ _ (bel_refl _) fun _ _ => rfl
      · intro a0 w9 K9 hF hB hK hC
        obtain ⟨vg, eg, zg⟩ := dep hK 0 (g := .guard) (j := 7) (k := 101) rfl rfl rfl
        have zg : vg = .bool false := zg
        subst zg
        refine guard_in (j := 7) (k := 101) (want := false) rfl rfl eg rfl ?_
        have b8 := hF.base (k := 8) (v := .int .i64 c2) (by kernel_rfl) rfl
        clear hF hB hK
        go_simp
        exact hC _ _ (bel_refl _) fun _ _ => rfl
      · intro a0 w9 K9 hF hB hK hC
        obtain ⟨vg, eg, zg⟩ := dep hK 0 (g := .guard) (j := 7) (k := 101) rfl rfl rfl
        have zg : vg = .bool false := zg
        subst zg
        refine guard_in (j := 7) (k := 101) (want := false) rfl rfl eg rfl ?_
        have b14 := hF.base (k := 14) (v := .pointer (some ⟨g14, 0, none⟩)) (by kernel_rfl) rfl
        have x90 : w9.cell? ⟨g14, 0, none⟩ = some (.bool s) := (FX14.out.below hB FX14.out.lt).cell 0
        have x91 : w9.cell? ⟨g14, 1, none⟩ = some (.string (dec n)) := (FX14.out.below hB FX14.out.lt).cell 1
        have x92 : w9.cell? ⟨g14, 2, none⟩ = some (.string (dec d0)) := (FX14.out.below hB FX14.out.lt).cell 2
        have x93 : w9.cell? ⟨g14, 3, none⟩ = some (.bool false) := (FX14.out.below hB FX14.out.lt).cell 3
        clear hF hB hK
        go_simp
        exact hC _ _ (bel_refl _) fun _ _ => rfl
      · intro a0 w9 K9 hF hB hK hC
        obtain ⟨vg, eg, zg⟩ := dep hK 0 (g := .guard) (j := 7) (k := 101) rfl rfl rfl
        have zg : vg = .bool false := zg
        subst zg
        refine guard_in (j := 7) (k := 101) (want := false) rfl rfl eg rfl ?_
        have b15 := hF.base (k := 15) (v := .pointer (some ⟨g15, 0, none⟩)) (by kernel_rfl) rfl
        have x90 : w9.cell? ⟨g15, 0, none⟩ = some (.bool s') := (FX15.out.below hB FX15.out.lt).cell 0
        have x91 : w9.cell? ⟨g15, 1, none⟩ = some (.string (dec m)) := (FX15.out.below hB FX15.out.lt).cell 1
        have x92 : w9.cell? ⟨g15, 2, none⟩ = some (.string (dec f0)) := (FX15.out.below hB FX15.out.lt).cell 2
        have x93 : w9.cell? ⟨g15, 3, none⟩ = some (.bool false) := (FX15.out.below hB FX15.out.lt).cell 3
        clear hF hB hK
        go_simp
        exact hC _ _ (bel_refl _) fun _ _ => rfl
      · intro a0 w9 K9 hF hB hK hC
        obtain ⟨vg, eg, zg⟩ := dep hK 2 (g := .guard) (j := 7) (k := 101) rfl rfl rfl
        have zg : vg = .bool false := zg
        subst zg
        refine guard_in (j := 7) (k := 101) (want := false) rfl rfl eg rfl ?_
        obtain ⟨v105, e105, z105⟩ := dep hK 0 (g := .data) (j := 11) (k := 105) rfl rfl rfl
        have z105 : v105 = .agg #[.bool s', .string (dec m), .string (dec f0), .bool false] := z105
        subst z105
        have HB9 := Lib.hid hB
        clear hF hB hK
        go_simp
        refine (refLess_any s' m f0 false _).mono ?_
        rintro e w7 ⟨rfl, hbl⟩
        exact hC _ _ hbl fun _ _ => rfl
      · intro a0 w9 K9 hF hB hK hC
        obtain ⟨vg, eg, zg⟩ := dep hK 3 (g := .guard) (j := 7) (k := 101) rfl rfl rfl
        have zg : vg = .bool false := zg
        subst zg
        refine guard_in (j := 7) (k := 101) (want := false) rfl rfl eg rfl ?_
        obtain ⟨v104, e104, z104⟩ := dep hK 0 (g := .data) (j := 10) (k := 104) rfl rfl rfl
        have z104 : v104 = .agg #[.bool s, .string (dec n), .string (dec d0), .bool false] := z104
        subst z104
        obtain ⟨v106, e106, z106⟩ := dep hK 1 (g := .data) (j := 12) (k := 106) rfl rfl rfl
        have z106 : v106 = .agg #[.bool (!s'), .string (dec m), .string (dec f0), .bool false] := z106
        subst z106
        have HB9 := Lib.hid hB
        clear hF hB hK
        go_simp
        refine (ref_add (q := f2) (k := ov2) ⟨s, n, d0⟩ ⟨!s', m, f0⟩ _ DL.out.1 DL.out.2.1 DL.out.2.2.1 DL.out.2.2.2 (by have := E2.out.1; rw [Bool.bne_true] at this; exact this) E2.out.2).mono ?_
        rintro e w7 ⟨rfl, hbl⟩
        exact hC _ _ hbl fun _ _ => rfl
      · intro a0 w9 K9 hF hB hK hC
        obtain ⟨vg, eg, zg⟩ := dep hK 4 (g := .guard) (j := 7) (k := 101) rfl rfl rfl
        have zg : vg = .bool false := zg
        subst zg
        refine guard_in (j := 7) (k := 101) (want := false) rfl rfl eg rfl ?_
        obtain ⟨v102, e102, z102⟩ := dep hK 0 (g := .data) (j := 8) (k := 102) rfl rfl rfl
        have z102 : v102 = .agg #[.bool q2.s, .slice Au (limbs q2.n).length cu, .slice Av (limbs q2.d).length cv] := z102
        subst z102
        obtain ⟨v103, e103, z103⟩ := dep hK 1 (g := .data) (j := 9) (k := 103) rfl rfl rfl
        have z103 : v103 = .int .i64 c2 := z103
        subst z103
        obtain ⟨v107, e107, z107⟩ := dep hK 2 (g := .data) (j := 13) (k := 107) rfl rfl rfl
        have z107 : v107 = .agg #[.bool f2.s, .string (dec f2.n), .string (dec f2.d), .bool ov2] := z107
        subst z107
        have HB9 := Lib.hid hB
        clear hF hB hK
        go_simp
        refine (isQ_ans A2.out Au Av cu cv _ (Ru.out.below HB9.out) (Rv.out.below HB9.out)).mono ?_
        rintro e w7 ⟨rfl, hbl⟩
        exact hC _ _ hbl fun _ _ => rfl
      · intro a0 w9 K9 hF hB hK hC
        obtain ⟨vg, eg, zg⟩ := dep hK 1 (g := .guard) (j := 7) (k := 101) rfl rfl rfl
        have zg : vg = .bool false := zg
        subst zg
        refine guard_in (j := 7) (k := 101) (want := false) rfl rfl eg rfl ?_
        obtain ⟨v108, e108, z108⟩ := dep hK 0 (g := .data) (j := 14) (k := 108) rfl rfl rfl
        have z108 : v108 = .bool true := z108
        subst z108
        have HB9 := Lib.hid hB
        clear hF hB hK
        go_simp
        exact hC _ _ (bel_refl _) fun _ _ => rfl
      · refine stepG_plain rfl ?_
        intro a0 w9 K9 hF hB hK hC
        obtain ⟨v101, e101, z101⟩ := dep hK 0 (g := .data) (j := 7) (k := 101) rfl rfl rfl
        have z101 : v101 = .bool false := z101
        subst z101
        obtain ⟨v109, e109, z109⟩ := dep hK 1 (g := .data) (j := 15) (k := 109) rfl rfl rfl
        have z109 : v109 = .bool false := z109
        subst z109
        have HB9 := Lib.hid hB
        clear hF hB hK
        go_simp
        exact hC _ _ (bel_refl _) fun _ _ => rfl
      · refine stepG_plain rfl ?_
        intro a0 w9 K9 hF hB hK hC
        obtain ⟨v110, e110, z110⟩ := dep hK 0 (g := .data) (j := 16) (k := 110) rfl rfl rfl
        have z110 : v110 = .bool false := z110
        subst z110
        clear hF hB hK
        go_simp
        exact hC _ _ (bel_refl _) fun _ _ => rfl
      · intro a0 w9 K9 hF hB hK hC
        obtain ⟨vg, eg, zg⟩ := dep hK 0 (g := .guard) (j := 17) (k := 111) rfl rfl rfl
        have zg : vg = .bool false := zg
        subst zg
        refine guard_in (j := 17) (k := 111) (want := false) rfl rfl eg rfl ?_
        have b9 := hF.base (k := 9) (v := .pointer (some ⟨w3.heap.size, 0, none⟩)) (by kernel_rfl) rfl
        have x90 : w9.cell? ⟨w3.heap.size, 0, none⟩ = some (.bool q3.s) := (VP.out.below hB VP.out.lt).cell 0
        have x91 : w9.cell? ⟨w3.heap.size, 1, none⟩ = some (.slice Ap (limbs q3.n).length cp) := (VP.out.below hB VP.out.lt).cell 1
        have x92 : w9.cell? ⟨w3.heap.size, 2, none⟩ = some (.slice Ar (limbs q3.d).length cr) := (VP.out.below hB VP.out.lt).cell 2
        clear hF hB hK
        go_simp
        exact hC _ _ (bel_refl _) fun _ _ => rfl
      · intro a0 w9 K9 hF hB hK hC
        obtain ⟨vg, eg, zg⟩ := dep hK 0 (g := .guard) (j := 17) (k := 111) rfl rfl rfl
        have zg : vg = .bool false := zg
        subst zg
        refine guard_in (j := 17) (k := 111) (want := false) rfl rfl eg rfl ?_
        have b10 := hF.base (k := 10) (v := .int .i64 c3) (by kernel_rfl) rfl
        clear hF hB hK
        go_simp
        exact hC _ _ (bel_refl _) fun _ _ => rfl
      · intro a0 w9 K9 hF hB hK hC
        obtain ⟨vg, eg, zg⟩ := dep hK 0 (g := .guard) (j := 17) (k := 111) rfl rfl rfl
        have zg : vg = .bool false := zg
        subst zg
        refine guard_in (j := 17) (k := 111) (want := false) rfl rfl eg rfl ?_
        have b14 := hF.base (k := 14) (v := .pointer (some ⟨g14, 0, none⟩)) (by kernel_rfl) rfl
        have x90 : w9.cell? ⟨g14, 0, none⟩ = some (.bool s) := (FX14.out.below hB FX14.out.lt).cell 0
        have x91 : w9.cell? ⟨g14, 1, none⟩ = some (.string (dec n)) := (FX14.out.below hB FX14.out.lt).cell 1
        have x92 : w9.cell? ⟨g14, 2, none⟩ = some (.string (dec d0)) := (FX14.out.below hB FX14.out.lt).cell 2
        have x93 : w9.cell? ⟨g14, 3, none⟩ = some (.bool false) := (FX14.out.below hB FX14.out.lt).cell 3
        clear hF hB hK
        go_simp
        exact hC _ _ (bel_refl _) fun _ _ => rfl
      · intro a0 w9 K9 hF hB hK hC
        obtain ⟨vg, eg, zg⟩ := dep hK 0 (g := .guard) (j := 17) (k := 111) rfl rfl rfl
        have zg : vg = .bool false := zg
        subst zg
        refine guard_in (j := 17) (k := 111) (want := false) rfl rfl eg rfl ?_
        have b15 := hF.base (k := 15) (v := .pointer (some ⟨g15, 0, none⟩)) (by kernel_rfl) rfl
        have x90 : w9.cell? ⟨g15, 0, none⟩ = some (.bool s') := (FX15.out.below hB FX15.out.lt).cell 0
        have x91 : w9.cell? ⟨g15, 1, none⟩ = some (.string (dec m)) := (FX15.out.below hB FX15.out.lt).cell 1
        have x92 : w9.cell? ⟨g15, 2, none⟩ = some (.string (dec f0)) := (FX15.out.below hB FX15.out.lt).cell 2
        have x93 : w9.cell? ⟨g15, 3, none⟩ = some (.bool false) := (FX15.out.below hB FX15.out.lt).cell 3
        clear hF hB hK
        go_simp
        exact hC _ _ (bel_refl _) fun _ _ => rfl
      · intro a0 w9 K9 hF hB hK hC
        obtain ⟨vg, eg, zg⟩ := dep hK 3 (g := .guard) (j := 17) (k := 111) rfl rfl rfl
        have zg : vg = .bool false := zg
        subst zg
        refine guard_in (j := 17) (k := 111) (want := false) rfl rfl eg rfl ?_
        obtain ⟨v114, e114, z114⟩ := dep hK 0 (g := .data) (j := 20) (k := 114) rfl rfl rfl
        have z114 : v114 = .agg #[.bool s, .string (dec n), .string (dec d0), .bool false] := z114
        subst z114
        obtain ⟨v115, e115, z115⟩ := dep hK 1 (g := .data) (j := 21) (k := 115) rfl rfl rfl
        have z115 : v115 = .agg #[.bool s', .string (dec m), .string (dec f0), .bool false] := z115
        subst z115
        have HB9 := Lib.hid hB
        clear hF hB hK
        go_simp
        refine (ref_mul (q := f3) (k := ov3) ⟨s, n, d0⟩ ⟨s', m, f0⟩ _ DL.out.1 DL.out.2.1 DL.out.2.2.1 DL.out.2.2.2 E3.out.1 E3.out.2).mono ?_
        rintro e w7 ⟨rfl, hbl⟩
        exact hC _ _ hbl fun _ _ => rfl
      · intro a0 w9 K9 hF hB hK hC
        obtain ⟨vg, eg, zg⟩ := dep hK 4 (g := .guard) (j := 17) (k := 111) rfl rfl rfl
        have zg : vg = .bool false := zg
        subst zg
        refine guard_in (j := 17) (k := 111) (want := false) rfl rfl eg rfl ?_
        obtain ⟨v112, e112, z112⟩ := dep hK 0 (g := .data) (j := 18) (k := 112) rfl rfl rfl
        have z112 : v112 = .agg #[.bool q3.s, .slice Ap (limbs q3.n).length cp, .slice Ar (limbs q3.d).length cr] := z112
        subst z112
        obtain ⟨v113, e113, z113⟩ := dep hK 1 (g := .data) (j := 19) (k := 113) rfl rfl rfl
        have z113 : v113 = .int .i64 c3 := z113
        subst z113
        obtain ⟨v116, e116, z116⟩ := dep hK 2 (g := .data) (j := 22) (k := 116) rfl rfl rfl
        have z116 : v116 = .agg #[.bool f3.s, .string (dec f3.n), .string (dec f3.d), .bool ov3] := z116
        subst z116
        have HB9 := Lib.hid hB
        clear hF hB hK
        go_simp
        refine (isQ_ans A3.out Ap Ar cp cr _ (Rp.out.below HB9.out) (Rr.out.below HB9.out)).mono ?_
        rintro e w7 ⟨rfl, hbl⟩
        exact hC _ _ hbl fun _ _ => rfl
      · intro a0 w9 K9 hF hB hK hC
        obtain ⟨vg, eg, zg⟩ := dep hK 1 (g := .guard) (j := 17) (k := 111) rfl rfl rfl
        have zg : vg = .bool false := zg
        subst zg
        refine guard_in (j := 17) (k := 111) (want := false) rfl rfl eg rfl ?_
        obtain ⟨v117, e117, z117⟩ := dep hK 0 (g := .data) (j := 23) (k := 117) rfl rfl rfl
        have z117 : v117 = .bool true := z117
        subst z117
        have HB9 := Lib.hid hB
        clear hF hB hK
        go_simp
        exact hC _ _ (bel_refl _) fun _ _ => rfl
      · refine stepG_plain rfl ?_
        intro a0 w9 K9 hF hB hK hC
        obtain ⟨v111, e111, z111⟩ := dep hK 0 (g := .data) (j := 17) (k := 111) rfl rfl rfl
        have z111 : v111 = .bool false := z111
        subst z111
        obtain ⟨v118, e118, z118⟩ := dep hK 1 (g := .data) (j := 24) (k := 118) rfl rfl rfl
        have z118 : v118 = .bool false := z118
        subst z118
        have HB9 := Lib.hid hB
        clear hF hB hK
        go_simp
        exact hC _ _ (bel_refl _) fun _ _ => rfl
      · refine stepG_plain rfl ?_
        intro a0 w9 K9 hF hB hK hC
        obtain ⟨v119, e119, z119⟩ := dep hK 0 (g := .data) (j := 25) (k := 119) rfl rfl rfl
        have z119 : v119 = .bool false := z119
        subst z119
        clear hF hB hK
        go_simp
        exact hC _ _ (bel_refl _) fun _ _ => rfl
      · intro a0 w9 K9 hF hB hK hC
        obtain ⟨vg, eg, zg⟩ := dep hK 1 (g := .guard) (j := 26) (k := 120) rfl rfl rfl
        have zg : vg = .bool false := zg
        subst zg
        refine guard_in (j := 26) (k := 120) (want := false) rfl rfl eg rfl ?_
        have HB9 := Lib.hid hB
        clear hF hB hK
        go_simp
        refine (aliveQ _).mono ?_
        rintro e w7 ⟨rfl, hbl⟩
        exact hC _ _ hbl fun _ _ => rfl
      · intro a0 w9 K9 hF hB hK hC
        obtain ⟨vg, eg, zg⟩ := dep hK 1 (g := .guard) (j := 26) (k := 120) rfl rfl rfl
        have zg : vg = .bool false := zg
        subst zg
        refine guard_in (j := 26) (k := 120) (want := false) rfl rfl eg rfl ?_
        obtain ⟨v121, e121, z121⟩ := dep hK 0 (g := .data) (j := 27) (k := 121) rfl rfl rfl
        have z121 : v121 = .bool true := z121
        subst z121
        have HB9 := Lib.hid hB
        clear hF hB hK
        go_simp
        exact hC _ _ (bel_refl _) fun _ _ => rfl
      · refine stepG_plain rfl ?_
        intro a0 w9 K9 hF hB hK hC
        obtain ⟨v120, e120, z120⟩ := dep hK 0 (g := .data) (j := 26) (k := 120) rfl rfl rfl
        have z120 : v120 = .bool false := z120
        subst z120
        obtain ⟨v122, e122, z122⟩ := dep hK 1 (g := .data) (j := 28) (k := 122) rfl rfl rfl
        have z122 : v122 = .bool false := z122
        subst z122
        have HB9 := Lib.hid hB
        clear hF hB hK
        go_simp
        exact hC _ _ (bel_refl _) fun _ _ => rfl
      case fin =>
        intro a0 w9 hF hB hK
        have b6 := hF.base (k := 6) (v := .int .i64 c1) (by kernel_rfl) rfl
        have b8 := hF.base (k := 8) (v := .int .i64 c2) (by kernel_rfl) rfl
        have b10 := hF.base (k := 10) (v := .int .i64 c3) (by kernel_rfl) rfl
        have b12 := hF.base (k := 12) (v := .int .i64 4) (by kernel_rfl) rfl
        have b5 := hF.base (k := 5) (v := .pointer (some ⟨w1.heap.size, 0, none⟩)) (by kernel_rfl) rfl
        have b7 := hF.base (k := 7) (v := .pointer (some ⟨w2.heap.size, 0, none⟩)) (by kernel_rfl) rfl
        have b9 := hF.base (k := 9) (v := .pointer (some ⟨w3.heap.size, 0, none⟩)) (by kernel_rfl) rfl
        have b11 := hF.base (k := 11) (v := .pointer (some ⟨w4.heap.size, 0, none⟩)) (by kernel_rfl) rfl
        have b13 := hF.base (k := 13) (v := .pointer (some ⟨w4.heap.size + 1, 0, none⟩)) (by kernel_rfl) rfl
        have b14 := hF.base (k := 14) (v := .pointer (some ⟨g14, 0, none⟩)) (by kernel_rfl) rfl
        have b15 := hF.base (k := 15) (v := .pointer (some ⟨g15, 0, none⟩)) (by kernel_rfl) rfl
        have hsz := hF.size
        have hdf := hF.defers
        clear hF
        obtain ⟨v123, e123, z123⟩ := known hK 29 (k := 123) (by decide) rfl
        have z123 : v123 = .bool false := z123
        subst z123
        clear hK
        obtain ⟨⟨l0⟩, df⟩ := a0
        have hs0 : l0.length = 140 := hsz
        clear hsz
        replace hdf : df = _ := hdf
        subst hdf
        obtain ⟨u, rfl⟩ := lits_140 hs0
        clear hs0
        have q6 : u 6 = _ := Option.some.inj b6
        clear b6
        have q8 : u 8 = _ := Option.some.inj b8
        clear b8
        have q10 : u 10 = _ := Option.some.inj b10
        clear b10
        have q12 : u 12 = _ := Option.some.inj b12
        clear b12
        have q5 : u 5 = _ := Option.some.inj b5
        clear b5
        have q7 : u 7 = _ := Option.some.inj b7
        clear b7
        have q9 : u 9 = _ := Option.some.inj b9
        clear b9
        have q11 : u 11 = _ := Option.some.inj b11
        clear b11
        have q13 : u 13 = _ := Option.some.inj b13
        clear b13
        have q14 : u 14 = _ := Option.some.inj b14
        clear b14
        have q15 : u 15 = _ := Option.some.inj b15
        clear b15
        have q123 : u 123 = _ := Option.some.inj e123
        clear e123
        rw [q6, q8, q10, q12, q5, q7, q9, q11, q13, q14, q15, q123]
        clear q6 q8 q10 q12 q5 q7 q9 q11 q13 q14 q15 q123
        have hbl := hB; clear hB
        replace R1 := Lib.hid (R1.out.below hbl)
        replace R2 := Lib.hid (R2.out.below hbl)
        replace R3 := Lib.hid (R3.out.below hbl)
        replace R4 := Lib.hid (R4.out.below hbl)
        replace Rs := Lib.hid (Rs.out.below hbl)
        replace HNs := Lib.hid (HNs.out.below hbl)
        replace Rt := Lib.hid (Rt.out.below hbl)
        replace HNt := Lib.hid (HNt.out.below hbl)
        replace Ru := Lib.hid (Ru.out.below hbl)
        replace HNu := Lib.hid (HNu.out.below hbl)
        replace Rv := Lib.hid (Rv.out.below hbl)
        replace HNv := Lib.hid (HNv.out.below hbl)
        replace Rp := Lib.hid (Rp.out.below hbl)
        replace HNp := Lib.hid (HNp.out.below hbl)
        replace Rr := Lib.hid (Rr.out.below hbl)
        replace HNr := Lib.hid (HNr.out.below hbl)
        replace Rx := Lib.hid (Rx.out.below hbl)
        replace HNx := Lib.hid (HNx.out.below hbl)
        replace Ry := Lib.hid (Ry.out.below hbl)
        replace HNy := Lib.hid (HNy.out.below hbl)
        replace CX := Lib.hid (CX.out.below hbl CX.out.lt)
        replace CY := Lib.hid (CY.out.below hbl CY.out.lt)
        replace VS := Lib.hid (VS.out.below hbl VS.out.lt)
        replace VD := Lib.hid (VD.out.below hbl VD.out.lt)
        replace VP := Lib.hid (VP.out.below hbl VP.out.lt)
        replace VQ := Lib.hid (VQ.out.below hbl VQ.out.lt)
        replace VN := Lib.hid (VN.out.below hbl VN.out.lt)
        replace FX14 := Lib.hid (FX14.out.below hbl FX14.out.lt)
        replace FX15 := Lib.hid (FX15.out.below hbl FX15.out.lt)
        replace HW := Lib.hid (bel_trans HW.out hbl); clear hbl
        refine wpList_nil ?_
        have y1 : w9.cell? ⟨g15, 1, none⟩ = some (.string (dec m)) := FX15.out.cell 1
        have VQ0 : w9.cell? ⟨w4.heap.size, 0, none⟩ = some (.bool false) := VQ.out.cell 0
        have VQ1 : w9.cell? ⟨w4.heap.size, 1, none⟩ = some (.slice Ax 0 cx) := VQ.out.cell 1
        have VQ2 : w9.cell? ⟨w4.heap.size, 2, none⟩ = some (.slice Ay 0 cy) := VQ.out.cell 2
        have VN0 : w9.cell? ⟨w4.heap.size + 1, 0, none⟩ = some (.bool false) := VN.out.cell 0
        have VN1 : w9.cell? ⟨w4.heap.size + 1, 1, none⟩ = some (.slice none 0 0) := VN.out.cell 1
        have VN2 : w9.cell? ⟨w4.heap.size + 1, 2, none⟩ = some (.slice none 0 0) := VN.out.cell 2
        go_wp2_with fail
        refine (same_none Ax Ay cx cy _).mono ?_
        rintro e w7 ⟨rfl, hbl⟩
        replace R1 := Lib.hid (R1.out.below hbl)
        replace R2 := Lib.hid (R2.out.below hbl)
        replace R3 := Lib.hid (R3.out.below hbl)
        replace R4 := Lib.hid (R4.out.below hbl)
        replace Rs := Lib.hid (Rs.out.below hbl)
        replace HNs := Lib.hid (HNs.out.below hbl)
        replace Rt := Lib.hid (Rt.out.below hbl)
        replace HNt := Lib.hid (HNt.out.below hbl)
        replace Ru := Lib.hid (Ru.out.below hbl)
        replace HNu := Lib.hid (HNu.out.below hbl)
        replace Rv := Lib.hid (Rv.out.below hbl)
        replace HNv := Lib.hid (HNv.out.below hbl)
        replace Rp := Lib.hid (Rp.out.below hbl)
        replace HNp := Lib.hid (HNp.out.below hbl)
        replace Rr := Lib.hid (Rr.out.below hbl)
        replace HNr := Lib.hid (HNr.out.below hbl)
        replace Rx := Lib.hid (Rx.out.below hbl)
        replace HNx := Lib.hid (HNx.out.below hbl)
        replace Ry := Lib.hid (Ry.out.below hbl)
        replace HNy := Lib.hid (HNy.out.below hbl)
        replace CX := Lib.hid (CX.out.below hbl CX.out.lt)
        replace CY := Lib.hid (CY.out.below hbl CY.out.lt)
        replace VS := Lib.hid (VS.out.below hbl VS.out.lt)
        replace VD := Lib.hid (VD.out.below hbl VD.out.lt)
        replace VP := Lib.hid (VP.out.below hbl VP.out.lt)
        replace VQ := Lib.hid (VQ.out.below hbl VQ.out.lt)
        replace VN := Lib.hid (VN.out.below hbl VN.out.lt)
        replace FX14 := Lib.hid (FX14.out.below hbl FX14.out.lt)
        replace FX15 := Lib.hid (FX15.out.below hbl FX15.out.lt)
        replace HW := Lib.hid (bel_trans HW.out hbl); clear hbl
        go_wp2
        go_ret
        exact ⟨rfl, HW.out⟩

set_option maxRecDepth 100000 in
set_option maxHeartbeats 1000000 in
theorem reckons_p (s s' : Bool) (A B A' B' : Option Addr) (c d c' d' : Nat) (x0 y0 x0' y0' : List Nat) (n d0 m f0 : Nat) (w : World) (h1 : RdL w A x0) (h2 : RdL w B y0) (h3 : RdL w A' x0') (h4 : RdL w B' y0') (k1 : x0.length ≤ c) (k2 : y0.length ≤ d) (k3 : x0'.length ≤ c') (k4 : y0'.length ≤ d') (m1 : Lim x0) (m2 : Lim y0) (m3 : Lim x0') (m4 : Lim y0') (hn : n < Top) (hd : d0 < Top) (hq : QR ⟨s, n, d0⟩) (hm : m < Top) (hf : f0 < Top) (hp : QR ⟨s', m, f0⟩) (hm0 : m ≠ 0) (e1 : few x0 = (limbs n)) (e2 : few y0 = (limbs d0)) (e3 : few x0' = (limbs m)) (e4 : few y0' = (limbs f0)) :
    Calls Try.prog 5 #[.agg #[.bool s, .slice A x0.length c, .slice B y0.length d], .agg #[.bool s', .slice A' x0'.length c', .slice B' y0'.length d']] w (RetT w) := by
  have HRA := Lib.hid ((rightB_q (s := s) hn hd).2 hq)
  have HRB := Lib.hid ((rightB_q (s := s') hm hf).2 hp)
  have HQ := Lib.hid (And.intro hn (And.intro hd hq)); clear hn hd hq
  have HP := Lib.hid (And.intro hm (And.intro hf hp)); clear hm hf hp
  have DL := Lib.hid (And.intro (decL_top HQ.out.1) (And.intro (decL_top HQ.out.2.1) (And.intro (decL_top HP.out.1) (decL_top HP.out.2.1))))
  obtain ⟨q1, c1, a1, v, v'⟩ := ans_add ⟨s, n, d0⟩ ⟨s', m, f0⟩ false HQ.out.2.2.den HP.out.2.2.den
  have V1 := Lib.hid (And.intro v v'); clear v v'
  obtain ⟨ov1, ho⟩ : ∃ k, (decide (Top ≤ n * f0 + m * d0) || decide (Top ≤ d0 * f0)) = k := ⟨_, rfl⟩
  obtain ⟨f1, hf⟩ : ∃ f, sumQ s (s' != false) (n * f0) (m * d0) (d0 * f0) = f := ⟨_, rfl⟩
  have A1 := Lib.hid (show Ans q1 f1 c1 ov1 by rw [← ho, ← hf]; exact a1); clear a1
  have E1 := Lib.hid (And.intro hf ho); clear hf ho
  obtain ⟨q2, c2, a2, v, v'⟩ := ans_add ⟨s, n, d0⟩ ⟨s', m, f0⟩ true HQ.out.2.2.den HP.out.2.2.den
  have V2 := Lib.hid (And.intro v v'); clear v v'
  obtain ⟨ov2, ho⟩ : ∃ k, (decide (Top ≤ n * f0 + m * d0) || decide (Top ≤ d0 * f0)) = k := ⟨_, rfl⟩
  obtain ⟨f2, hf⟩ : ∃ f, sumQ s (s' != true) (n * f0) (m * d0) (d0 * f0) = f := ⟨_, rfl⟩
  have A2 := Lib.hid (show Ans q2 f2 c2 ov2 by rw [← ho, ← hf]; exact a2); clear a2
  have E2 := Lib.hid (And.intro hf ho); clear hf ho
  obtain ⟨q3, c3, a3, v, v'⟩ := ans_red (s != s') (n * m) (d0 * f0) (den_ne HQ.out.2.2.den HP.out.2.2.den)
  have V3 := Lib.hid (And.intro v v'); clear v v'
  obtain ⟨ov3, ho⟩ : ∃ k, overB false (n * m) (d0 * f0) = k := ⟨_, rfl⟩
  obtain ⟨f3, hf⟩ : ∃ f, redQ (s != s') (n * m) (d0 * f0) = f := ⟨_, rfl⟩
  have A3 := Lib.hid (show Ans q3 f3 c3 ov3 by rw [← ho, ← hf]; exact a3); clear a3
  have E3 := Lib.hid (And.intro hf ho); clear hf ho
  obtain ⟨q4, c4, a4, v, v'⟩ := ans_red (s != s') (n * f0) (d0 * m) (den_ne HQ.out.2.2.den hm0)
  have V4 := Lib.hid (And.intro v v'); clear v v'
  obtain ⟨ov4, ho⟩ : ∃ k, overB false (n * f0) (d0 * m) = k := ⟨_, rfl⟩
  obtain ⟨f4, hf⟩ : ∃ f, redQ (s != s') (n * f0) (d0 * m) = f := ⟨_, rfl⟩
  have A4 := Lib.hid (show Ans q4 f4 c4 ov4 by rw [← ho, ← hf]; exact a4); clear a4
  have E4 := Lib.hid (And.intro hf ho); clear hf ho
  have em0 := dec_is0 m
  rw [decide_eq_false hm0] at em0
  have HM0 := Lib.hid hm0; clear hm0
  have R1 := Lib.hid (show RdL w A (limbs n) by rw [← e1]; exact h1.take 18); clear h1
  have R2 := Lib.hid (show RdL w B (limbs d0) by rw [← e2]; exact h2.take 18); clear h2
  have R3 := Lib.hid (show RdL w A' (limbs m) by rw [← e3]; exact h3.take 18); clear h3
  have R4 := Lib.hid (show RdL w B' (limbs f0) by rw [← e4]; exact h4.take 18); clear h4
  have L18 := Lib.hid (show (limbs n).length ≤ 18 ∧ (limbs d0).length ≤ 18 ∧ (limbs m).length ≤ 18 ∧ (limbs f0).length ≤ 18 by rw [← e1, ← e2, ← e3, ← e4]; exact ⟨few_le _, few_le _, few_le _, few_le _⟩)
  have KC := Lib.hid (show (limbs n).length ≤ c ∧ (limbs d0).length ≤ d ∧ (limbs m).length ≤ c' ∧ (limbs f0).length ≤ d' by rw [← e1, ← e2, ← e3, ← e4]; exact ⟨Nat.le_trans (few_short _) k1, Nat.le_trans (few_short _) k2, Nat.le_trans (few_short _) k3, Nat.le_trans (few_short _) k4⟩)
  have M := Lib.hid (show Lim (limbs n) ∧ Lim (limbs d0) ∧ Lim (limbs m) ∧ Lim (limbs f0) by rw [← e1, ← e2, ← e3, ← e4]; exact ⟨few_lim m1, few_lim m2, few_lim m3, few_lim m4⟩); clear m1 m2 m3 m4
  have F := Lib.hid (And.intro (And.intro k1 (And.intro k2 (And.intro e1 e2))) (And.intro k3 (And.intro k4 (And.intro e3 e4)))); clear k1 k2 k3 k4 e1 e2 e3 e4
  obtain ⟨wa, hwa⟩ : ∃ wa, wa = (w.alloc (.cells #[.bool s, .slice A x0.length c, .slice B y0.length d] 25)).alloc (.cells #[.bool s', .slice A' x0'.length c', .slice B' y0'.length d'] 25) := ⟨_, rfl⟩
  have hbl : Below w.heap.size w wa := by rw [hwa]; exact bel_alloc (bel_alloc (bel_refl _) _) _
  have CX : Blk wa (w.heap.size) 25 #[.bool s, .slice A x0.length c, .slice B y0.length d] := by
    have hz := Blk.new (w) 25 #[.bool s, .slice A x0.length c, .slice B y0.length d]
    rw [hwa]
    exact (hz.alloc _)
  have CY : Blk wa (w.heap.size + 1) 25 #[.bool s', .slice A' x0'.length c', .slice B' y0'.length d'] := by
    have hz := Blk.new (w.alloc (.cells #[.bool s, .slice A x0.length c, .slice B y0.length d] 25)) 25 #[.bool s', .slice A' x0'.length c', .slice B' y0'.length d']
    rw [World.size_alloc] at hz
    rw [hwa]
    exact hz
  replace R1 := Lib.hid (R1.out.below hbl)
  replace R2 := Lib.hid (R2.out.below hbl)
  replace R3 := Lib.hid (R3.out.below hbl)
  replace R4 := Lib.hid (R4.out.below hbl)
  have HW := Lib.hid hbl; clear hbl
  replace CX := Lib.hid CX
  replace CY := Lib.hid CY
  go_enter Try.func5, Try.ntmps5
  go_wp2_with fail
  rw [← hwa]
  clear hwa
  refine wp_region_typed 4 (TOf [VIs (.agg #[.bool s, .slice A x0.length c, .slice B y0.length d]),
      VIs (.agg #[.bool s, .slice A (limbs n).length c, .slice B (limbs d0).length d]),
      VIs (.agg #[.bool s', .slice A' x0'.length c', .slice B' y0'.length d']),
      VIs (.agg #[.bool s', .slice A' (limbs m).length c', .slice B' (limbs f0).length d'])]) (by kernel_rfl) (by kernel_rfl) (by kernel_rfl) (LiftAll.at_ (.cons (VIs.lift _) (.cons (VIs.lift _) (.cons (VIs.lift _) (.cons (VIs.lift _) .nil))))) (steps_all (steps_cons ?_ (steps_cons ?_ (steps_cons ?_ (steps_cons ?_ steps_zero))))) ?fin
  · intro a0 w9 K9 hF hB hK hC
    have b2 := hF.base (k := 2) (v := .pointer (some ⟨w.heap.size, 0, none⟩)) (by kernel_rfl) rfl
    have x90 : w9.cell? ⟨w.heap.size, 0, none⟩ = some (.bool s) := (CX.out.below hB CX.out.lt).cell 0
    have x91 : w9.cell? ⟨w.heap.size, 1, none⟩ = some (.slice A x0.length c) := (CX.out.below hB CX.out.lt).cell 1
    have x92 : w9.cell? ⟨w.heap.size, 2, none⟩ = some (.slice B y0.length d) := (CX.out.below hB CX.out.lt).cell 2
    clear hF hB hK
    go_simp
    exact hC _ _ (bel_refl _) fun _ _ => rfl
  · intro a0 w9 K9 hF hB hK hC
    obtain ⟨v16, e16, z16⟩ := dep hK 0 (g := .data) (j := 0) (k := 16) rfl rfl rfl
    have z16 : v16 = .agg #[.bool s, .slice A x0.length c, .slice B y0.length d] := z16
    subst z16
    have HB9 := Lib.hid hB
    clear hF hB hK
    go_simp
    refine (fewQ_is s A B c d x0 y0 (limbs n) (limbs d0) _ F.out.1.1 F.out.1.2.1 F.out.1.2.2.1 F.out.1.2.2.2).mono ?_
    rintro e w7 ⟨rfl, hbl⟩
    exact hC _ _ hbl fun _ _ => rfl
  · intro a0 w9 K9 hF hB hK hC
    have b3 := hF.base (k := 3) (v := .pointer (some ⟨w.heap.size + 1, 0, none⟩)) (by kernel_rfl) rfl
    have x90 : w9.cell? ⟨w.heap.size + 1, 0, none⟩ = some (.bool s') := (CY.out.below hB CY.out.lt).cell 0
    have x91 : w9.cell? ⟨w.heap.size + 1, 1, none⟩ = some (.slice A' x0'.length c') := (CY.out.below hB CY.out.lt).cell 1
    have x92 : w9.cell? ⟨w.heap.size + 1, 2, none⟩ = some (.slice B' y0'.length d') := (CY.out.below hB CY.out.lt).cell 2
    clear hF hB hK
    go_simp
    exact hC _ _ (bel_refl _) fun _ _ => rfl
  · intro a0 w9 K9 hF hB hK hC
    obtain ⟨v18, e18, z18⟩ := dep hK 0 (g := .data) (j := 2) (k := 18) rfl rfl rfl
    have z18 : v18 = .agg #[.bool s', .slice A' x0'.length c', .slice B' y0'.length d'] := z18
    subst z18
    have HB9 := Lib.hid hB
    clear hF hB hK
    go_simp
    refine (fewQ_is s' A' B' c' d' x0' y0' (limbs m) (limbs f0) _ F.out.2.1 F.out.2.2.1 F.out.2.2.2.1 F.out.2.2.2.2).mono ?_
    rintro e w7 ⟨rfl, hbl⟩
    exact hC _ _ hbl fun _ _ => rfl
  case fin =>
    intro a0 w9 hF hB hK
    have b2 := hF.base (k := 2) (v := .pointer (some ⟨w.heap.size, 0, none⟩)) (by kernel_rfl) rfl
    have b3 := hF.base (k := 3) (v := .pointer (some ⟨w.heap.size + 1, 0, none⟩)) (by kernel_rfl) rfl
    have hsz := hF.size
    have hdf := hF.defers
    clear hF
    obtain ⟨v17, e17, z17⟩ := known hK 1 (k := 17) (by decide) rfl
    have z17 : v17 = .agg #[.bool s, .slice A (limbs n).length c, .slice B (limbs d0).length d] := z17
    subst z17
    obtain ⟨v19, e19, z19⟩ := known hK 3 (k := 19) (by decide) rfl
    have z19 : v19 = .agg #[.bool s', .slice A' (limbs m).length c', .slice B' (limbs f0).length d'] := z19
    subst z19
    clear hK
    obtain ⟨⟨l0⟩, df⟩ := a0
    have hs0 : l0.length = 140 := hsz
    clear hsz
    replace hdf : df = _ := hdf
    subst hdf
    obtain ⟨u, rfl⟩ := lits_140 hs0
    clear hs0
    have q2 : u 2 = _ := Option.some.inj b2
    clear b2
    have q3 : u 3 = _ := Option.some.inj b3
    clear b3
    have q17 : u 17 = _ := Option.some.inj e17
    clear e17
    have q19 : u 19 = _ := Option.some.inj e19
    clear e19
    rw [q2, q3, q17, q19]
    clear q2 q3 q17 q19
    have hbl := hB; clear hB
    replace R1 := Lib.hid (R1.out.below hbl)
    replace R2 := Lib.hid (R2.out.below hbl)
    replace R3 := Lib.hid (R3.out.below hbl)
    replace R4 := Lib.hid (R4.out.below hbl)
    replace CX := Lib.hid (CX.out.below hbl CX.out.lt)
    replace CY := Lib.hid (CY.out.below hbl CY.out.lt)
    replace HW := Lib.hid (bel_trans HW.out hbl); clear hbl
    simp only [List.drop_succ_cons, List.drop_zero]
    have pd0 := CX.out.cell 0
    have pf0 := CX.out.frozen 0
    have pd1 := CX.out.cell 1
    have pf1 := CX.out.frozen 1
    have pd2 := CX.out.cell 2
    have pf2 := CX.out.frozen 2
    have qd0 := CY.out.cell 0
    have qf0 := CY.out.frozen 0
    have qd1 := CY.out.cell 1
    have qf1 := CY.out.frozen 1
    have qd2 := CY.out.cell 2
    have qf2 := CY.out.frozen 2
    go_upto_region 2 with fail
    clear pd0 pf0 pd1 pf1 pd2 pf2 qd0 qf0 qd1 qf1 qd2 qf2
    obtain ⟨wf, hwf⟩ : ∃ wf, wf = ((((((w9.setCell ⟨w.heap.size, 0, none⟩ (.bool s)).setCell ⟨w.heap.size, 1, none⟩ (.slice A (limbs n).length c)).setCell ⟨w.heap.size, 2, none⟩ (.slice B (limbs d0).length d)).setCell ⟨w.heap.size + 1, 0, none⟩ (.bool s')).setCell ⟨w.heap.size + 1, 1, none⟩ (.slice A' (limbs m).length c')).setCell ⟨w.heap.size + 1, 2, none⟩ (.slice B' (limbs f0).length d')) := ⟨_, rfl⟩
    rw [← hwf]
    replace R1 := Lib.hid (show RdL wf _ _ by rw [hwf]; exact RdL.set3 ((((CY.out).far (p := ⟨w.heap.size, 0, none⟩) (by simp) _).far (p := ⟨w.heap.size, 1, none⟩) (by simp) _).far (p := ⟨w.heap.size, 2, none⟩) (by simp) _) (RdL.set3 (CX.out) (R1.out) _ _ _) _ _ _)
    replace R2 := Lib.hid (show RdL wf _ _ by rw [hwf]; exact RdL.set3 ((((CY.out).far (p := ⟨w.heap.size, 0, none⟩) (by simp) _).far (p := ⟨w.heap.size, 1, none⟩) (by simp) _).far (p := ⟨w.heap.size, 2, none⟩) (by simp) _) (RdL.set3 (CX.out) (R2.out) _ _ _) _ _ _)
    replace R3 := Lib.hid (show RdL wf _ _ by rw [hwf]; exact RdL.set3 ((((CY.out).far (p := ⟨w.heap.size, 0, none⟩) (by simp) _).far (p := ⟨w.heap.size, 1, none⟩) (by simp) _).far (p := ⟨w.heap.size, 2, none⟩) (by simp) _) (RdL.set3 (CX.out) (R3.out) _ _ _) _ _ _)
    replace R4 := Lib.hid (show RdL wf _ _ by rw [hwf]; exact RdL.set3 ((((CY.out).far (p := ⟨w.heap.size, 0, none⟩) (by simp) _).far (p := ⟨w.heap.size, 1, none⟩) (by simp) _).far (p := ⟨w.heap.size, 2, none⟩) (by simp) _) (RdL.set3 (CX.out) (R4.out) _ _ _) _ _ _)
    have CX_ := Lib.hid (show Blk wf (w.heap.size) 25 #[.bool s, .slice A (limbs n).length c, .slice B (limbs d0).length d] by rw [hwf]; exact ((((((CX.out).put 0 (.bool s)).put 1 (.slice A (limbs n).length c)).put 2 (.slice B (limbs d0).length d)).far (p := ⟨w.heap.size + 1, 0, none⟩) (by simp) _).far (p := ⟨w.heap.size + 1, 1, none⟩) (by simp) _).far (p := ⟨w.heap.size + 1, 2, none⟩) (by simp) _)
    have CY_ := Lib.hid (show Blk wf (w.heap.size + 1) 25 #[.bool s', .slice A' (limbs m).length c', .slice B' (limbs f0).length d'] by rw [hwf]; exact ((((((CY.out).far (p := ⟨w.heap.size, 0, none⟩) (by simp) _).far (p := ⟨w.heap.size, 1, none⟩) (by simp) _).far (p := ⟨w.heap.size, 2, none⟩) (by simp) _).put 0 (.bool s')).put 1 (.slice A' (limbs m).length c')).put 2 (.slice B' (limbs f0).length d'))
    replace CX := CX_; clear CX_
    replace CY := CY_; clear CY_
    replace HW := Lib.hid (show Below w.heap.size w wf by rw [hwf]; exact bel_set (p := ⟨w.heap.size + 1, 2, none⟩) (bel_set (p := ⟨w.heap.size + 1, 1, none⟩) (bel_set (p := ⟨w.heap.size + 1, 0, none⟩) (bel_set (p := ⟨w.heap.size, 2, none⟩) (bel_set (p := ⟨w.heap.size, 1, none⟩) (bel_set (p := ⟨w.heap.size, 0, none⟩) (HW.out) (by show w.heap.size ≤ w.heap.size; omega) _) (by show w.heap.size ≤ w.heap.size; omega) _) (by show w.heap.size ≤ w.heap.size; omega) _) (by show w.heap.size ≤ w.heap.size + 1; omega) _) (by show w.heap.size ≤ w.heap.size + 1; omega) _) (by show w.heap.size ≤ w.heap.size + 1; omega) _)
    clear hwf
    have CX0 : wf.cell? ⟨w.heap.size, 0, none⟩ = some (.bool s) := CX.out.cell 0
    have CX1 : wf.cell? ⟨w.heap.size, 1, none⟩ = some (.slice A (limbs n).length c) := CX.out.cell 1
    have CX2 : wf.cell? ⟨w.heap.size, 2, none⟩ = some (.slice B (limbs d0).length d) := CX.out.cell 2
    have CY0 : wf.cell? ⟨w.heap.size + 1, 0, none⟩ = some (.bool s') := CY.out.cell 0
    have CY1 : wf.cell? ⟨w.heap.size + 1, 1, none⟩ = some (.slice A' (limbs m).length c') := CY.out.cell 1
    have CY2 : wf.cell? ⟨w.heap.size + 1, 2, none⟩ = some (.slice B' (limbs f0).length d') := CY.out.cell 2
    go_wp2_with fail
    refine (add_of s s' A B A' B' _ _ _ _ c d c' d' _ (add_q (q := q1) (e := c1) false A B A' B' c d c' d' ⟨s, n, d0⟩ ⟨s', m, f0⟩ _ R1.out R2.out R3.out R4.out KC.out.1 KC.out.2.1 KC.out.2.2.1 KC.out.2.2.2 HQ.out.1 HQ.out.2.1 HP.out.1 HP.out.2.1 HQ.out.2.2 HP.out.2.2 V1.out.1 V1.out.2)).mono ?_
    rintro e w1 ⟨vs, vt, rfl, hns, hnt, hbl⟩
    replace R1 := Lib.hid (R1.out.below hbl)
    replace R2 := Lib.hid (R2.out.below hbl)
    replace R3 := Lib.hid (R3.out.below hbl)
    replace R4 := Lib.hid (R4.out.below hbl)
    replace CX := Lib.hid (CX.out.below hbl CX.out.lt)
    replace CY := Lib.hid (CY.out.below hbl CY.out.lt)
    replace HW := Lib.hid (bel_trans HW.out hbl); clear hbl
    clear CX0 CX1 CX2 CY0 CY1 CY2
    have CX0 : w1.cell? ⟨w.heap.size, 0, none⟩ = some (.bool s) := CX.out.cell 0
    have CX1 : w1.cell? ⟨w.heap.size, 1, none⟩ = some (.slice A (limbs n).length c) := CX.out.cell 1
    have CX2 : w1.cell? ⟨w.heap.size, 2, none⟩ = some (.slice B (limbs d0).length d) := CX.out.cell 2
    have CY0 : w1.cell? ⟨w.heap.size + 1, 0, none⟩ = some (.bool s') := CY.out.cell 0
    have CY1 : w1.cell? ⟨w.heap.size + 1, 1, none⟩ = some (.slice A' (limbs m).length c') := CY.out.cell 1
    have CY2 : w1.cell? ⟨w.heap.size + 1, 2, none⟩ = some (.slice B' (limbs f0).length d') := CY.out.cell 2
    have HNs := Lib.hid hns; clear hns
    obtain ⟨As, cs, rfl, hcs, hrs⟩ := HNs.out.row
    have Rs := Lib.hid hrs; have HCs := Lib.hid hcs; clear hrs hcs
    have HNt := Lib.hid hnt; clear hnt
    obtain ⟨At, ct, rfl, hct, hrt⟩ := HNt.out.row
    have Rt := Lib.hid hrt; have HCt := Lib.hid hct; clear hrt hct
    go_upto_region 3 with fail
    obtain ⟨wk1, hwk1⟩ : ∃ wk1, wk1 = w1.alloc (.cells #[.bool q1.s, .slice As (limbs q1.n).length cs, .slice At (limbs q1.d).length ct] 25) := ⟨_, rfl⟩
    rw [← hwk1]
    have hbl : Below w1.heap.size w1 wk1 := by rw [hwk1]; exact bel_alloc (bel_refl _) _
    have VS : Blk wk1 (w1.heap.size) 25 #[.bool q1.s, .slice As (limbs q1.n).length cs, .slice At (limbs q1.d).length ct] := by
      have hz := Blk.new (w1) 25 #[.bool q1.s, .slice As (limbs q1.n).length cs, .slice At (limbs q1.d).length ct]
      rw [hwk1]
      exact hz
    clear hwk1
    replace R1 := Lib.hid (R1.out.below hbl)
    replace R2 := Lib.hid (R2.out.below hbl)
    replace R3 := Lib.hid (R3.out.below hbl)
    replace R4 := Lib.hid (R4.out.below hbl)
    replace Rs := Lib.hid (Rs.out.below hbl)
    replace HNs := Lib.hid (HNs.out.below hbl)
    replace Rt := Lib.hid (Rt.out.below hbl)
    replace HNt := Lib.hid (HNt.out.below hbl)
    replace CX := Lib.hid (CX.out.below hbl CX.out.lt)
    replace CY := Lib.hid (CY.out.below hbl CY.out.lt)
    replace HW := Lib.hid (bel_trans HW.out hbl); clear hbl
    replace VS := Lib.hid VS
    clear CX0 CX1 CX2 CY0 CY1 CY2
    have CX0 : wk1.cell? ⟨w.heap.size, 0, none⟩ = some (.bool s) := CX.out.cell 0
    have CX1 : wk1.cell? ⟨w.heap.size, 1, none⟩ = some (.slice A (limbs n).length c) := CX.out.cell 1
    have CX2 : wk1.cell? ⟨w.heap.size, 2, none⟩ = some (.slice B (limbs d0).length d) := CX.out.cell 2
    have CY0 : wk1.cell? ⟨w.heap.size + 1, 0, none⟩ = some (.bool s') := CY.out.cell 0
    have CY1 : wk1.cell? ⟨w.heap.size + 1, 1, none⟩ = some (.slice A' (limbs m).length c') := CY.out.cell 1
    have CY2 : wk1.cell? ⟨w.heap.size + 1, 2, none⟩ = some (.slice B' (limbs f0).length d') := CY.out.cell 2
    have VS0 : wk1.cell? ⟨w1.heap.size, 0, none⟩ = some (.bool q1.s) := VS.out.cell 0
    have VS1 : wk1.cell? ⟨w1.heap.size, 1, none⟩ = some (.slice As (limbs q1.n).length cs) := VS.out.cell 1
    have VS2 : wk1.cell? ⟨w1.heap.size, 2, none⟩ = some (.slice At (limbs q1.d).length ct) := VS.out.cell 2
    go_wp2_with fail
    refine (sub_of s s' A B A' B' _ _ _ _ c d c' d' _ (add_q (q := q2) (e := c2) true A B A' B' c d c' d' ⟨s, n, d0⟩ ⟨s', m, f0⟩ _ R1.out R2.out R3.out R4.out KC.out.1 KC.out.2.1 KC.out.2.2.1 KC.out.2.2.2 HQ.out.1 HQ.out.2.1 HP.out.1 HP.out.2.1 HQ.out.2.2 HP.out.2.2 V2.out.1 V2.out.2)).mono ?_
    rintro e w2 ⟨vu, vv, rfl, hnu, hnv, hbl⟩
    replace R1 := Lib.hid (R1.out.below hbl)
    replace R2 := Lib.hid (R2.out.below hbl)
    replace R3 := Lib.hid (R3.out.below hbl)
    replace R4 := Lib.hid (R4.out.below hbl)
    replace Rs := Lib.hid (Rs.out.below hbl)
    replace HNs := Lib.hid (HNs.out.below hbl)
    replace Rt := Lib.hid (Rt.out.below hbl)
    replace HNt := Lib.hid (HNt.out.below hbl)
    replace CX := Lib.hid (CX.out.below hbl CX.out.lt)
    replace CY := Lib.hid (CY.out.below hbl CY.out.lt)
    replace VS := Lib.hid (VS.out.below hbl VS.out.lt)
    replace HW := Lib.hid (bel_trans HW.out hbl); clear hbl
    clear CX0 CX1 CX2 CY0 CY1 CY2 VS0 VS1 VS2
    have CX0 : w2.cell? ⟨w.heap.size, 0, none⟩ = some (.bool s) := CX.out.cell 0
    have CX1 : w2.cell? ⟨w.heap.size, 1, none⟩ = some (.slice A (limbs n).length c) := CX.out.cell 1
    have CX2 : w2.cell? ⟨w.heap.size, 2, none⟩ = some (.slice B (limbs d0).length d) := CX.out.cell 2
    have CY0 : w2.cell? ⟨w.heap.size + 1, 0, none⟩ = some (.bool s') := CY.out.cell 0
    have CY1 : w2.cell? ⟨w.heap.size + 1, 1, none⟩ = some (.slice A' (limbs m).length c') := CY.out.cell 1
    have CY2 : w2.cell? ⟨w.heap.size + 1, 2, none⟩ = some (.slice B' (limbs f0).length d') := CY.out.cell 2
    have VS0 : w2.cell? ⟨w1.heap.size, 0, none⟩ = some (.bool q1.s) := VS.out.cell 0
    have VS1 : w2.cell? ⟨w1.heap.size, 1, none⟩ = some (.slice As (limbs q1.n).length cs) := VS.out.cell 1
    have VS2 : w2.cell? ⟨w1.heap.size, 2, none⟩ = some (.slice At (limbs q1.d).length ct) := VS.out.cell 2
    have HNu := Lib.hid hnu; clear hnu
    obtain ⟨Au, cu, rfl, hcu, hru⟩ := HNu.out.row
    have Ru := Lib.hid hru; have HCu := Lib.hid hcu; clear hru hcu
    have HNv := Lib.hid hnv; clear hnv
    obtain ⟨Av, cv, rfl, hcv, hrv⟩ := HNv.out.row
    have Rv := Lib.hid hrv; have HCv := Lib.hid hcv; clear hrv hcv
    go_upto_region 4 with fail
    obtain ⟨wk2, hwk2⟩ : ∃ wk2, wk2 = w2.alloc (.cells #[.bool q2.s, .slice Au (limbs q2.n).length cu, .slice Av (limbs q2.d).length cv] 25) := ⟨_, rfl⟩
    rw [← hwk2]
    have hbl : Below w2.heap.size w2 wk2 := by rw [hwk2]; exact bel_alloc (bel_refl _) _
    have VD : Blk wk2 (w2.heap.size) 25 #[.bool q2.s, .slice Au (limbs q2.n).length cu, .slice Av (limbs q2.d).length cv] := by
      have hz := Blk.new (w2) 25 #[.bool q2.s, .slice Au (limbs q2.n).length cu, .slice Av (limbs q2.d).length cv]
      rw [hwk2]
      exact hz
    clear hwk2
    replace R1 := Lib.hid (R1.out.below hbl)
    replace R2 := Lib.hid (R2.out.below hbl)
    replace R3 := Lib.hid (R3.out.below hbl)
    replace R4 := Lib.hid (R4.out.below hbl)
    replace Rs := Lib.hid (Rs.out.below hbl)
    replace HNs := Lib.hid (HNs.out.below hbl)
    replace Rt := Lib.hid (Rt.out.below hbl)
    replace HNt := Lib.hid (HNt.out.below hbl)
    replace Ru := Lib.hid (Ru.out.below hbl)
    replace HNu := Lib.hid (HNu.out.below hbl)
    replace Rv := Lib.hid (Rv.out.below hbl)
    replace HNv := Lib.hid (HNv.out.below hbl)
    replace CX := Lib.hid (CX.out.below hbl CX.out.lt)
    replace CY := Lib.hid (CY.out.below hbl CY.out.lt)
    replace VS := Lib.hid (VS.out.below hbl VS.out.lt)
    replace HW := Lib.hid (bel_trans HW.out hbl); clear hbl
    replace VD := Lib.hid VD
    clear CX0 CX1 CX2 CY0 CY1 CY2 VS0 VS1 VS2
    have CX0 : wk2.cell? ⟨w.heap.size, 0, none⟩ = some (.bool s) := CX.out.cell 0
    have CX1 : wk2.cell? ⟨w.heap.size, 1, none⟩ = some (.slice A (limbs n).length c) := CX.out.cell 1
    have CX2 : wk2.cell? ⟨w.heap.size, 2, none⟩ = some (.slice B (limbs d0).length d) := CX.out.cell 2
    have CY0 : wk2.cell? ⟨w.heap.size + 1, 0, none⟩ = some (.bool s') := CY.out.cell 0
    have CY1 : wk2.cell? ⟨w.heap.size + 1, 1, none⟩ = some (.slice A' (limbs m).length c') := CY.out.cell 1
    have CY2 : wk2.cell? ⟨w.heap.size + 1, 2, none⟩ = some (.slice B' (limbs f0).length d') := CY.out.cell 2
    have VS0 : wk2.cell? ⟨w1.heap.size, 0, none⟩ = some (.bool q1.s) := VS.out.cell 0
    have VS1 : wk2.cell? ⟨w1.heap.size, 1, none⟩ = some (.slice As (limbs q1.n).length cs) := VS.out.cell 1
    have VS2 : wk2.cell? ⟨w1.heap.size, 2, none⟩ = some (.slice At (limbs q1.d).length ct) := VS.out.cell 2
    have VD0 : wk2.cell? ⟨w2.heap.size, 0, none⟩ = some (.bool q2.s) := VD.out.cell 0
    have VD1 : wk2.cell? ⟨w2.heap.size, 1, none⟩ = some (.slice Au (limbs q2.n).length cu) := VD.out.cell 1
    have VD2 : wk2.cell? ⟨w2.heap.size, 2, none⟩ = some (.slice Av (limbs q2.d).length cv) := VD.out.cell 2
    go_wp2_with fail
    refine (mul_walk A B A' B' c d c' d' ⟨s, n, d0⟩ ⟨s', m, f0⟩ _ R1.out R2.out R3.out R4.out KC.out.1 KC.out.2.1 KC.out.2.2.1 KC.out.2.2.2 HQ.out.1 HQ.out.2.1 HP.out.1 HP.out.2.1 HQ.out.2.2 HP.out.2.2 V3.out.1 V3.out.2).mono ?_
    rintro e w3 ⟨vp, vr, rfl, hnp, hnr, hbl⟩
    replace R1 := Lib.hid (R1.out.below hbl)
    replace R2 := Lib.hid (R2.out.below hbl)
    replace R3 := Lib.hid (R3.out.below hbl)
    replace R4 := Lib.hid (R4.out.below hbl)
    replace Rs := Lib.hid (Rs.out.below hbl)
    replace HNs := Lib.hid (HNs.out.below hbl)
    replace Rt := Lib.hid (Rt.out.below hbl)
    replace HNt := Lib.hid (HNt.out.below hbl)
    replace Ru := Lib.hid (Ru.out.below hbl)
    replace HNu := Lib.hid (HNu.out.below hbl)
    replace Rv := Lib.hid (Rv.out.below hbl)
    replace HNv := Lib.hid (HNv.out.below hbl)
    replace CX := Lib.hid (CX.out.below hbl CX.out.lt)
    replace CY := Lib.hid (CY.out.below hbl CY.out.lt)
    replace VS := Lib.hid (VS.out.below hbl VS.out.lt)
    replace VD := Lib.hid (VD.out.below hbl VD.out.lt)
    replace HW := Lib.hid (bel_trans HW.out hbl); clear hbl
    clear CX0 CX1 CX2 CY0 CY1 CY2 VS0 VS1 VS2 VD0 VD1 VD2
    have CX0 : w3.cell? ⟨w.heap.size, 0, none⟩ = some (.bool s) := CX.out.cell 0
    have CX1 : w3.cell? ⟨w.heap.size, 1, none⟩ = some (.slice A (limbs n).length c) := CX.out.cell 1
    have CX2 : w3.cell? ⟨w.heap.size, 2, none⟩ = some (.slice B (limbs d0).length d) := CX.out.cell 2
    have CY0 : w3.cell? ⟨w.heap.size + 1, 0, none⟩ = some (.bool s') := CY.out.cell 0
    have CY1 : w3.cell? ⟨w.heap.size + 1, 1, none⟩ = some (.slice A' (limbs m).length c') := CY.out.cell 1
    have CY2 : w3.cell? ⟨w.heap.size + 1, 2, none⟩ = some (.slice B' (limbs f0).length d') := CY.out.cell 2
    have VS0 : w3.cell? ⟨w1.heap.size, 0, none⟩ = some (.bool q1.s) := VS.out.cell 0
    have VS1 : w3.cell? ⟨w1.heap.size, 1, none⟩ = some (.slice As (limbs q1.n).length cs) := VS.out.cell 1
    have VS2 : w3.cell? ⟨w1.heap.size, 2, none⟩ = some (.slice At (limbs q1.d).length ct) := VS.out.cell 2
    have VD0 : w3.cell? ⟨w2.heap.size, 0, none⟩ = some (.bool q2.s) := VD.out.cell 0
    have VD1 : w3.cell? ⟨w2.heap.size, 1, none⟩ = some (.slice Au (limbs q2.n).length cu) := VD.out.cell 1
    have VD2 : w3.cell? ⟨w2.heap.size, 2, none⟩ = some (.slice Av (limbs q2.d).length cv) := VD.out.cell 2
    have HNp := Lib.hid hnp; clear hnp
    obtain ⟨Ap, cp, rfl, hcp, hrp⟩ := HNp.out.row
    have Rp := Lib.hid hrp; have HCp := Lib.hid hcp; clear hrp hcp
    have HNr := Lib.hid hnr; clear hnr
    obtain ⟨Ar, cr, rfl, hcr, hrr⟩ := HNr.out.row
    have Rr := Lib.hid hrr; have HCr := Lib.hid hcr; clear hrr hcr
    go_upto_region 5 with fail
    obtain ⟨wk3, hwk3⟩ : ∃ wk3, wk3 = w3.alloc (.cells #[.bool q3.s, .slice Ap (limbs q3.n).length cp, .slice Ar (limbs q3.d).length cr] 25) := ⟨_, rfl⟩
    rw [← hwk3]
    have hbl : Below w3.heap.size w3 wk3 := by rw [hwk3]; exact bel_alloc (bel_refl _) _
    have VP : Blk wk3 (w3.heap.size) 25 #[.bool q3.s, .slice Ap (limbs q3.n).length cp, .slice Ar (limbs q3.d).length cr] := by
      have hz := Blk.new (w3) 25 #[.bool q3.s, .slice Ap (limbs q3.n).length cp, .slice Ar (limbs q3.d).length cr]
      rw [hwk3]
      exact hz
    clear hwk3
    replace R1 := Lib.hid (R1.out.below hbl)
    replace R2 := Lib.hid (R2.out.below hbl)
    replace R3 := Lib.hid (R3.out.below hbl)
    replace R4 := Lib.hid (R4.out.below hbl)
    replace Rs := Lib.hid (Rs.out.below hbl)
    replace HNs := Lib.hid (HNs.out.below hbl)
    replace Rt := Lib.hid (Rt.out.below hbl)
    replace HNt := Lib.hid (HNt.out.below hbl)
    replace Ru := Lib.hid (Ru.out.below hbl)
    replace HNu := Lib.hid (HNu.out.below hbl)
    replace Rv := Lib.hid (Rv.out.below hbl)
    replace HNv := Lib.hid (HNv.out.below hbl)
    replace Rp := Lib.hid (Rp.out.below hbl)
    replace HNp := Lib.hid (HNp.out.below hbl)
    replace Rr := Lib.hid (Rr.out.below hbl)
    replace HNr := Lib.hid (HNr.out.below hbl)
    replace CX := Lib.hid (CX.out.below hbl CX.out.lt)
    replace CY := Lib.hid (CY.out.below hbl CY.out.lt)
    replace VS := Lib.hid (VS.out.below hbl VS.out.lt)
    replace VD := Lib.hid (VD.out.below hbl VD.out.lt)
    replace HW := Lib.hid (bel_trans HW.out hbl); clear hbl
    replace VP := Lib.hid VP
    clear CX0 CX1 CX2 CY0 CY1 CY2 VS0 VS1 VS2 VD0 VD1 VD2
    have CX0 : wk3.cell? ⟨w.heap.size, 0, none⟩ = some (.bool s) := CX.out.cell 0
    have CX1 : wk3.cell? ⟨w.heap.size, 1, none⟩ = some (.slice A (limbs n).length c) := CX.out.cell 1
    have CX2 : wk3.cell? ⟨w.heap.size, 2, none⟩ = some (.slice B (limbs d0).length d) := CX.out.cell 2
    have CY0 : wk3.cell? ⟨w.heap.size + 1, 0, none⟩ = some (.bool s') := CY.out.cell 0
    have CY1 : wk3.cell? ⟨w.heap.size + 1, 1, none⟩ = some (.slice A' (limbs m).length c') := CY.out.cell 1
    have CY2 : wk3.cell? ⟨w.heap.size + 1, 2, none⟩ = some (.slice B' (limbs f0).length d') := CY.out.cell 2
    have VS0 : wk3.cell? ⟨w1.heap.size, 0, none⟩ = some (.bool q1.s) := VS.out.cell 0
    have VS1 : wk3.cell? ⟨w1.heap.size, 1, none⟩ = some (.slice As (limbs q1.n).length cs) := VS.out.cell 1
    have VS2 : wk3.cell? ⟨w1.heap.size, 2, none⟩ = some (.slice At (limbs q1.d).length ct) := VS.out.cell 2
    have VD0 : wk3.cell? ⟨w2.heap.size, 0, none⟩ = some (.bool q2.s) := VD.out.cell 0
    have VD1 : wk3.cell? ⟨w2.heap.size, 1, none⟩ = some (.slice Au (limbs q2.n).length cu) := VD.out.cell 1
    have VD2 : wk3.cell? ⟨w2.heap.size, 2, none⟩ = some (.slice Av (limbs q2.d).length cv) := VD.out.cell 2
    have VP0 : wk3.cell? ⟨w3.heap.size, 0, none⟩ = some (.bool q3.s) := VP.out.cell 0
    have VP1 : wk3.cell? ⟨w3.heap.size, 1, none⟩ = some (.slice Ap (limbs q3.n).length cp) := VP.out.cell 1
    have VP2 : wk3.cell? ⟨w3.heap.size, 2, none⟩ = some (.slice Ar (limbs q3.d).length cr) := VP.out.cell 2
    go_wp2_with fail
    refine (quo_walk A B A' B' c d c' d' ⟨s, n, d0⟩ ⟨s', m, f0⟩ _ R1.out R2.out R3.out R4.out KC.out.1 KC.out.2.1 KC.out.2.2.1 KC.out.2.2.2 HQ.out.1 HQ.out.2.1 HP.out.1 HP.out.2.1 HQ.out.2.2 HP.out.2.2 HM0.out V4.out.1 V4.out.2).mono ?_
    rintro e w4 ⟨vx, vy, rfl, hnx, hny, hbl⟩
    replace R1 := Lib.hid (R1.out.below hbl)
    replace R2 := Lib.hid (R2.out.below hbl)
    replace R3 := Lib.hid (R3.out.below hbl)
    replace R4 := Lib.hid (R4.out.below hbl)
    replace Rs := Lib.hid (Rs.out.below hbl)
    replace HNs := Lib.hid (HNs.out.below hbl)
    replace Rt := Lib.hid (Rt.out.below hbl)
    replace HNt := Lib.hid (HNt.out.below hbl)
    replace Ru := Lib.hid (Ru.out.below hbl)
    replace HNu := Lib.hid (HNu.out.below hbl)
    replace Rv := Lib.hid (Rv.out.below hbl)
    replace HNv := Lib.hid (HNv.out.below hbl)
    replace Rp := Lib.hid (Rp.out.below hbl)
    replace HNp := Lib.hid (HNp.out.below hbl)
    replace Rr := Lib.hid (Rr.out.below hbl)
    replace HNr := Lib.hid (HNr.out.below hbl)
    replace CX := Lib.hid (CX.out.below hbl CX.out.lt)
    replace CY := Lib.hid (CY.out.below hbl CY.out.lt)
    replace VS := Lib.hid (VS.out.below hbl VS.out.lt)
    replace VD := Lib.hid (VD.out.below hbl VD.out.lt)
    replace VP := Lib.hid (VP.out.below hbl VP.out.lt)
    replace HW := Lib.hid (bel_trans HW.out hbl); clear hbl
    clear CX0 CX1 CX2 CY0 CY1 CY2 VS0 VS1 VS2 VD0 VD1 VD2 VP0 VP1 VP2
    have CX0 : w4.cell? ⟨w.heap.size, 0, none⟩ = some (.bool s) := CX.out.cell 0
    have CX1 : w4.cell? ⟨w.heap.size, 1, none⟩ = some (.slice A (limbs n).length c) := CX.out.cell 1
    have CX2 : w4.cell? ⟨w.heap.size, 2, none⟩ = some (.slice B (limbs d0).length d) := CX.out.cell 2
    have CY0 : w4.cell? ⟨w.heap.size + 1, 0, none⟩ = some (.bool s') := CY.out.cell 0
    have CY1 : w4.cell? ⟨w.heap.size + 1, 1, none⟩ = some (.slice A' (limbs m).length c') := CY.out.cell 1
    have CY2 : w4.cell? ⟨w.heap.size + 1, 2, none⟩ = some (.slice B' (limbs f0).length d') := CY.out.cell 2
    have VS0 : w4.cell? ⟨w1.heap.size, 0, none⟩ = some (.bool q1.s) := VS.out.cell 0
    have VS1 : w4.cell? ⟨w1.heap.size, 1, none⟩ = some (.slice As (limbs q1.n).length cs) := VS.out.cell 1
    have VS2 : w4.cell? ⟨w1.heap.size, 2, none⟩ = some (.slice At (limbs q1.d).length ct) := VS.out.cell 2
    have VD0 : w4.cell? ⟨w2.heap.size, 0, none⟩ = some (.bool q2.s) := VD.out.cell 0
    have VD1 : w4.cell? ⟨w2.heap.size, 1, none⟩ = some (.slice Au (limbs q2.n).length cu) := VD.out.cell 1
    have VD2 : w4.cell? ⟨w2.heap.size, 2, none⟩ = some (.slice Av (limbs q2.d).length cv) := VD.out.cell 2
    have VP0 : w4.cell? ⟨w3.heap.size, 0, none⟩ = some (.bool q3.s) := VP.out.cell 0
    have VP1 : w4.cell? ⟨w3.heap.size, 1, none⟩ = some (.slice Ap (limbs q3.n).length cp) := VP.out.cell 1
    have VP2 : w4.cell? ⟨w3.heap.size, 2, none⟩ = some (.slice Ar (limbs q3.d).length cr) := VP.out.cell 2
    have HNx := Lib.hid hnx; clear hnx
    obtain ⟨Ax, cx, rfl, hcx, hrx⟩ := HNx.out.row
    have Rx := Lib.hid hrx; have HCx := Lib.hid hcx; clear hrx hcx
    have HNy := Lib.hid hny; clear hny
    obtain ⟨Ay, cy, rfl, hcy, hry⟩ := HNy.out.row
    have Ry := Lib.hid hry; have HCy := Lib.hid hcy; clear hry hcy
    go_upto_region 7 with fail
    obtain ⟨wk4, hwk4⟩ : ∃ wk4, wk4 = (w4.alloc (.cells #[.bool q4.s, .slice Ax (limbs q4.n).length cx, .slice Ay (limbs q4.d).length cy] 25)).alloc (.cells #[.bool false, .slice none 0 0, .slice none 0 0] 25) := ⟨_, rfl⟩
    rw [← hwk4]
    have hbl : Below w4.heap.size w4 wk4 := by rw [hwk4]; exact bel_alloc (bel_alloc (bel_refl _) _) _
    have VQ : Blk wk4 (w4.heap.size) 25 #[.bool q4.s, .slice Ax (limbs q4.n).length cx, .slice Ay (limbs q4.d).length cy] := by
      have hz := Blk.new (w4) 25 #[.bool q4.s, .slice Ax (limbs q4.n).length cx, .slice Ay (limbs q4.d).length cy]
      rw [hwk4]
      exact (hz.alloc _)
    have VN : Blk wk4 (w4.heap.size + 1) 25 #[.bool false, .slice none 0 0, .slice none 0 0] := by
      have hz := Blk.new (w4.alloc (.cells #[.bool q4.s, .slice Ax (limbs q4.n).length cx, .slice Ay (limbs q4.d).length cy] 25)) 25 #[.bool false, .slice none 0 0, .slice none 0 0]
      rw [World.size_alloc] at hz
      rw [hwk4]
      exact hz
    clear hwk4
    replace R1 := Lib.hid (R1.out.below hbl)
    replace R2 := Lib.hid (R2.out.below hbl)
    replace R3 := Lib.hid (R3.out.below hbl)
    replace R4 := Lib.hid (R4.out.below hbl)
    replace Rs := Lib.hid (Rs.out.below hbl)
    replace HNs := Lib.hid (HNs.out.below hbl)
    replace Rt := Lib.hid (Rt.out.below hbl)
    replace HNt := Lib.hid (HNt.out.below hbl)
    replace Ru := Lib.hid (Ru.out.below hbl)
    replace HNu := Lib.hid (HNu.out.below hbl)
    replace Rv := Lib.hid (Rv.out.below hbl)
    replace HNv := Lib.hid (HNv.out.below hbl)
    replace Rp := Lib.hid (Rp.out.below hbl)
    replace HNp := Lib.hid (HNp.out.below hbl)
    replace Rr := Lib.hid (Rr.out.below hbl)
    replace HNr := Lib.hid (HNr.out.below hbl)
    replace Rx := Lib.hid (Rx.out.below hbl)
    replace HNx := Lib.hid (HNx.out.below hbl)
    replace Ry := Lib.hid (Ry.out.below hbl)
    replace HNy := Lib.hid (HNy.out.below hbl)
    replace CX := Lib.hid (CX.out.below hbl CX.out.lt)
    replace CY := Lib.hid (CY.out.below hbl CY.out.lt)
    replace VS := Lib.hid (VS.out.below hbl VS.out.lt)
    replace VD := Lib.hid (VD.out.below hbl VD.out.lt)
    replace VP := Lib.hid (VP.out.below hbl VP.out.lt)
    replace HW := Lib.hid (bel_trans HW.out hbl); clear hbl
    replace VQ := Lib.hid VQ
    replace VN := Lib.hid VN
    clear CX0 CX1 CX2 CY0 CY1 CY2 VS0 VS1 VS2 VD0 VD1 VD2 VP0 VP1 VP2
    have CX0 : wk4.cell? ⟨w.heap.size, 0, none⟩ = some (.bool s) := CX.out.cell 0
    have CX1 : wk4.cell? ⟨w.heap.size, 1, none⟩ = some (.slice A (limbs n).length c) := CX.out.cell 1
    have CX2 : wk4.cell? ⟨w.heap.size, 2, none⟩ = some (.slice B (limbs d0).length d) := CX.out.cell 2
    have CY0 : wk4.cell? ⟨w.heap.size + 1, 0, none⟩ = some (.bool s') := CY.out.cell 0
    have CY1 : wk4.cell? ⟨w.heap.size + 1, 1, none⟩ = some (.slice A' (limbs m).length c') := CY.out.cell 1
    have CY2 : wk4.cell? ⟨w.heap.size + 1, 2, none⟩ = some (.slice B' (limbs f0).length d') := CY.out.cell 2
    have VS0 : wk4.cell? ⟨w1.heap.size, 0, none⟩ = some (.bool q1.s) := VS.out.cell 0
    have VS1 : wk4.cell? ⟨w1.heap.size, 1, none⟩ = some (.slice As (limbs q1.n).length cs) := VS.out.cell 1
    have VS2 : wk4.cell? ⟨w1.heap.size, 2, none⟩ = some (.slice At (limbs q1.d).length ct) := VS.out.cell 2
    have VD0 : wk4.cell? ⟨w2.heap.size, 0, none⟩ = some (.bool q2.s) := VD.out.cell 0
    have VD1 : wk4.cell? ⟨w2.heap.size, 1, none⟩ = some (.slice Au (limbs q2.n).length cu) := VD.out.cell 1
    have VD2 : wk4.cell? ⟨w2.heap.size, 2, none⟩ = some (.slice Av (limbs q2.d).length cv) := VD.out.cell 2
    have VP0 : wk4.cell? ⟨w3.heap.size, 0, none⟩ = some (.bool q3.s) := VP.out.cell 0
    have VP1 : wk4.cell? ⟨w3.heap.size, 1, none⟩ = some (.slice Ap (limbs q3.n).length cp) := VP.out.cell 1
    have VP2 : wk4.cell? ⟨w3.heap.size, 2, none⟩ = some (.slice Ar (limbs q3.d).length cr) := VP.out.cell 2
    have VQ0 : wk4.cell? ⟨w4.heap.size, 0, none⟩ = some (.bool q4.s) := VQ.out.cell 0
    have VQ1 : wk4.cell? ⟨w4.heap.size, 1, none⟩ = some (.slice Ax (limbs q4.n).length cx) := VQ.out.cell 1
    have VQ2 : wk4.cell? ⟨w4.heap.size, 2, none⟩ = some (.slice Ay (limbs q4.d).length cy) := VQ.out.cell 2
    have VN0 : wk4.cell? ⟨w4.heap.size + 1, 0, none⟩ = some (.bool false) := VN.out.cell 0
    have VN1 : wk4.cell? ⟨w4.heap.size + 1, 1, none⟩ = some (.slice none 0 0) := VN.out.cell 1
    have VN2 : wk4.cell? ⟨w4.heap.size + 1, 2, none⟩ = some (.slice none 0 0) := VN.out.cell 2
    go_wp2_with fail
    refine (refRatRight_is s A B c d (limbs n) (limbs d0) _ R1.out R2.out M.out.1 M.out.2.1 L18.out.1 L18.out.2.1 HRA.out).mono ?_
    rintro e w5 ⟨rfl, hbl⟩
    replace R1 := Lib.hid (R1.out.below hbl)
    replace R2 := Lib.hid (R2.out.below hbl)
    replace R3 := Lib.hid (R3.out.below hbl)
    replace R4 := Lib.hid (R4.out.below hbl)
    replace Rs := Lib.hid (Rs.out.below hbl)
    replace HNs := Lib.hid (HNs.out.below hbl)
    replace Rt := Lib.hid (Rt.out.below hbl)
    replace HNt := Lib.hid (HNt.out.below hbl)
    replace Ru := Lib.hid (Ru.out.below hbl)
    replace HNu := Lib.hid (HNu.out.below hbl)
    replace Rv := Lib.hid (Rv.out.below hbl)
    replace HNv := Lib.hid (HNv.out.below hbl)
    replace Rp := Lib.hid (Rp.out.below hbl)
    replace HNp := Lib.hid (HNp.out.below hbl)
    replace Rr := Lib.hid (Rr.out.below hbl)
    replace HNr := Lib.hid (HNr.out.below hbl)
    replace Rx := Lib.hid (Rx.out.below hbl)
    replace HNx := Lib.hid (HNx.out.below hbl)
    replace Ry := Lib.hid (Ry.out.below hbl)
    replace HNy := Lib.hid (HNy.out.below hbl)
    replace CX := Lib.hid (CX.out.below hbl CX.out.lt)
    replace CY := Lib.hid (CY.out.below hbl CY.out.lt)
    replace VS := Lib.hid (VS.out.below hbl VS.out.lt)
    replace VD := Lib.hid (VD.out.below hbl VD.out.lt)
    replace VP := Lib.hid (VP.out.below hbl VP.out.lt)
    replace VQ := Lib.hid (VQ.out.below hbl VQ.out.lt)
    replace VN := Lib.hid (VN.out.below hbl VN.out.lt)
    replace HW := Lib.hid (bel_trans HW.out hbl); clear hbl
    clear CX0 CX1 CX2 CY0 CY1 CY2 VS0 VS1 VS2 VD0 VD1 VD2 VP0 VP1 VP2 VQ0 VQ1 VQ2 VN0 VN1 VN2
    have CX0 : w5.cell? ⟨w.heap.size, 0, none⟩ = some (.bool s) := CX.out.cell 0
    have CX1 : w5.cell? ⟨w.heap.size, 1, none⟩ = some (.slice A (limbs n).length c) := CX.out.cell 1
    have CX2 : w5.cell? ⟨w.heap.size, 2, none⟩ = some (.slice B (limbs d0).length d) := CX.out.cell 2
    have CY0 : w5.cell? ⟨w.heap.size + 1, 0, none⟩ = some (.bool s') := CY.out.cell 0
    have CY1 : w5.cell? ⟨w.heap.size + 1, 1, none⟩ = some (.slice A' (limbs m).length c') := CY.out.cell 1
    have CY2 : w5.cell? ⟨w.heap.size + 1, 2, none⟩ = some (.slice B' (limbs f0).length d') := CY.out.cell 2
    have VS0 : w5.cell? ⟨w1.heap.size, 0, none⟩ = some (.bool q1.s) := VS.out.cell 0
    have VS1 : w5.cell? ⟨w1.heap.size, 1, none⟩ = some (.slice As (limbs q1.n).length cs) := VS.out.cell 1
    have VS2 : w5.cell? ⟨w1.heap.size, 2, none⟩ = some (.slice At (limbs q1.d).length ct) := VS.out.cell 2
    have VD0 : w5.cell? ⟨w2.heap.size, 0, none⟩ = some (.bool q2.s) := VD.out.cell 0
    have VD1 : w5.cell? ⟨w2.heap.size, 1, none⟩ = some (.slice Au (limbs q2.n).length cu) := VD.out.cell 1
    have VD2 : w5.cell? ⟨w2.heap.size, 2, none⟩ = some (.slice Av (limbs q2.d).length cv) := VD.out.cell 2
    have VP0 : w5.cell? ⟨w3.heap.size, 0, none⟩ = some (.bool q3.s) := VP.out.cell 0
    have VP1 : w5.cell? ⟨w3.heap.size, 1, none⟩ = some (.slice Ap (limbs q3.n).length cp) := VP.out.cell 1
    have VP2 : w5.cell? ⟨w3.heap.size, 2, none⟩ = some (.slice Ar (limbs q3.d).length cr) := VP.out.cell 2
    have VQ0 : w5.cell? ⟨w4.heap.size, 0, none⟩ = some (.bool q4.s) := VQ.out.cell 0
    have VQ1 : w5.cell? ⟨w4.heap.size, 1, none⟩ = some (.slice Ax (limbs q4.n).length cx) := VQ.out.cell 1
    have VQ2 : w5.cell? ⟨w4.heap.size, 2, none⟩ = some (.slice Ay (limbs q4.d).length cy) := VQ.out.cell 2
    have VN0 : w5.cell? ⟨w4.heap.size + 1, 0, none⟩ = some (.bool false) := VN.out.cell 0
    have VN1 : w5.cell? ⟨w4.heap.size + 1, 1, none⟩ = some (.slice none 0 0) := VN.out.cell 1
    have VN2 : w5.cell? ⟨w4.heap.size + 1, 2, none⟩ = some (.slice none 0 0) := VN.out.cell 2
    go_wp2_with fail
    refine (refRatRight_is s' A' B' c' d' (limbs m) (limbs f0) _ R3.out R4.out M.out.2.2.1 M.out.2.2.2 L18.out.2.2.1 L18.out.2.2.2 HRB.out).mono ?_
    rintro e w6 ⟨rfl, hbl⟩
    replace R1 := Lib.hid (R1.out.below hbl)
    replace R2 := Lib.hid (R2.out.below hbl)
    replace R3 := Lib.hid (R3.out.below hbl)
    replace R4 := Lib.hid (R4.out.below hbl)
    replace Rs := Lib.hid (Rs.out.below hbl)
    replace HNs := Lib.hid (HNs.out.below hbl)
    replace Rt := Lib.hid (Rt.out.below hbl)
    replace HNt := Lib.hid (HNt.out.below hbl)
    replace Ru := Lib.hid (Ru.out.below hbl)
    replace HNu := Lib.hid (HNu.out.below hbl)
    replace Rv := Lib.hid (Rv.out.below hbl)
    replace HNv := Lib.hid (HNv.out.below hbl)
    replace Rp := Lib.hid (Rp.out.below hbl)
    replace HNp := Lib.hid (HNp.out.below hbl)
    replace Rr := Lib.hid (Rr.out.below hbl)
    replace HNr := Lib.hid (HNr.out.below hbl)
    replace Rx := Lib.hid (Rx.out.below hbl)
    replace HNx := Lib.hid (HNx.out.below hbl)
    replace Ry := Lib.hid (Ry.out.below hbl)
    replace HNy := Lib.hid (HNy.out.below hbl)
    replace CX := Lib.hid (CX.out.below hbl CX.out.lt)
    replace CY := Lib.hid (CY.out.below hbl CY.out.lt)
    replace VS := Lib.hid (VS.out.below hbl VS.out.lt)
    replace VD := Lib.hid (VD.out.below hbl VD.out.lt)
    replace VP := Lib.hid (VP.out.below hbl VP.out.lt)
    replace VQ := Lib.hid (VQ.out.below hbl VQ.out.lt)
    replace VN := Lib.hid (VN.out.below hbl VN.out.lt)
    replace HW := Lib.hid (bel_trans HW.out hbl); clear hbl
    clear CX0 CX1 CX2 CY0 CY1 CY2 VS0 VS1 VS2 VD0 VD1 VD2 VP0 VP1 VP2 VQ0 VQ1 VQ2 VN0 VN1 VN2
    have CX0 : w6.cell? ⟨w.heap.size, 0, none⟩ = some (.bool s) := CX.out.cell 0
    have CX1 : w6.cell? ⟨w.heap.size, 1, none⟩ = some (.slice A (limbs n).length c) := CX.out.cell 1
    have CX2 : w6.cell? ⟨w.heap.size, 2, none⟩ = some (.slice B (limbs d0).length d) := CX.out.cell 2
    have CY0 : w6.cell? ⟨w.heap.size + 1, 0, none⟩ = some (.bool s') := CY.out.cell 0
    have CY1 : w6.cell? ⟨w.heap.size + 1, 1, none⟩ = some (.slice A' (limbs m).length c') := CY.out.cell 1
    have CY2 : w6.cell? ⟨w.heap.size + 1, 2, none⟩ = some (.slice B' (limbs f0).length d') := CY.out.cell 2
    have VS0 : w6.cell? ⟨w1.heap.size, 0, none⟩ = some (.bool q1.s) := VS.out.cell 0
    have VS1 : w6.cell? ⟨w1.heap.size, 1, none⟩ = some (.slice As (limbs q1.n).length cs) := VS.out.cell 1
    have VS2 : w6.cell? ⟨w1.heap.size, 2, none⟩ = some (.slice At (limbs q1.d).length ct) := VS.out.cell 2
    have VD0 : w6.cell? ⟨w2.heap.size, 0, none⟩ = some (.bool q2.s) := VD.out.cell 0
    have VD1 : w6.cell? ⟨w2.heap.size, 1, none⟩ = some (.slice Au (limbs q2.n).length cu) := VD.out.cell 1
    have VD2 : w6.cell? ⟨w2.heap.size, 2, none⟩ = some (.slice Av (limbs q2.d).length cv) := VD.out.cell 2
    have VP0 : w6.cell? ⟨w3.heap.size, 0, none⟩ = some (.bool q3.s) := VP.out.cell 0
    have VP1 : w6.cell? ⟨w3.heap.size, 1, none⟩ = some (.slice Ap (limbs q3.n).length cp) := VP.out.cell 1
    have VP2 : w6.cell? ⟨w3.heap.size, 2, none⟩ = some (.slice Ar (limbs q3.d).length cr) := VP.out.cell 2
    have VQ0 : w6.cell? ⟨w4.heap.size, 0, none⟩ = some (.bool q4.s) := VQ.out.cell 0
    have VQ1 : w6.cell? ⟨w4.heap.size, 1, none⟩ = some (.slice Ax (limbs q4.n).length cx) := VQ.out.cell 1
    have VQ2 : w6.cell? ⟨w4.heap.size, 2, none⟩ = some (.slice Ay (limbs q4.d).length cy) := VQ.out.cell 2
    have VN0 : w6.cell? ⟨w4.heap.size + 1, 0, none⟩ = some (.bool false) := VN.out.cell 0
    have VN1 : w6.cell? ⟨w4.heap.size + 1, 1, none⟩ = some (.slice none 0 0) := VN.out.cell 1
    have VN2 : w6.cell? ⟨w4.heap.size + 1, 2, none⟩ = some (.slice none 0 0) := VN.out.cell 2
    go_wp2_with fail
    have lCX : w.heap.size < w6.heap.size := CX.out.lt
    have lCY : w.heap.size + 1 < w6.heap.size := CY.out.lt
    have lVS : w1.heap.size < w6.heap.size := VS.out.lt
    have lVD : w2.heap.size < w6.heap.size := VD.out.lt
    have lVP : w3.heap.size < w6.heap.size := VP.out.lt
    have lVQ : w4.heap.size < w6.heap.size := VQ.out.lt
    have lVN : w4.heap.size + 1 < w6.heap.size := VN.out.lt
    have lW : w.heap.size ≤ w6.heap.size := HW.out.size
    refine wp_region_typedR 6 (TOf [VIs (.agg #[.bool s, .slice A (limbs n).length c, .slice B (limbs d0).length d]),
        VIs (.agg #[.bool s, .string (dec n), .string (dec d0), .bool false]),
        VIs (.agg #[.bool s', .slice A' (limbs m).length c', .slice B' (limbs f0).length d']),
        VIs (.agg #[.bool s', .string (dec m), .string (dec f0), .bool false]),
        VNewF w6.heap.size 49 #[.bool false, .string ⟨#[]⟩, .string ⟨#[]⟩, .bool false],
        VNewF w6.heap.size 49 #[.bool false, .string ⟨#[]⟩, .string ⟨#[]⟩, .bool false]]) (fun i j => (i = 4 ∧ j = 5) ∨ (i = 5 ∧ j = 4)) (fun i j h => by omega) (by kernel_rfl) (by kernel_rfl) (by kernel_rfl) (LiftAll.at_ (.cons (VIs.lift _) (.cons (VIs.lift _) (.cons (VIs.lift _) (.cons (VIs.lift _) (.cons (VNewF.lift _ _ _) (.cons (VNewF.lift _ _ _) .nil))))))) (stepsR_all (stepsR_cons ?_ (stepsR_cons ?_ (stepsR_cons ?_ (stepsR_cons ?_ (stepsR_cons ?_ (stepsR_cons ?_ stepsR_zero))))))) ?fin
    · refine stepR_plain rfl (by intro j h; omega) ?_
      intro a0 w9 K9 hF hB hK hC
      have b2 := hF.base (k := 2) (v := .pointer (some ⟨w.heap.size, 0, none⟩)) (by kernel_rfl) rfl
      have x90 : w9.cell? ⟨w.heap.size, 0, none⟩ = some (.bool s) := (CX.out.below hB CX.out.lt).cell 0
      have x91 : w9.cell? ⟨w.heap.size, 1, none⟩ = some (.slice A (limbs n).length c) := (CX.out.below hB CX.out.lt).cell 1
      have x92 : w9.cell? ⟨w.heap.size, 2, none⟩ = some (.slice B (limbs d0).length d) := (CX.out.below hB CX.out.lt).cell 2
      clear hF hB hK
      go_simp
      exact hC _ _ (bel_refl _) fun _ _ => rfl
    · refine stepR_plain rfl (by intro j h; omega) ?_
      intro a0 w9 K9 hF hB hK hC
      obtain ⟨v90, e90, z90⟩ := dep hK 0 (g := .data) (j := 0) (k := 90) rfl rfl rfl
      have z90 : v90 = .agg #[.bool s, .slice A (limbs n).length c, .slice B (limbs d0).length d] := z90
      subst z90
      have HB9 := Lib.hid hB
      clear hF hB hK
      go_simp
      refine (refOf_any s A B c d n d0 _ (R1.out.below HB9.out) (R2.out.below HB9.out) HQ.out.1 HQ.out.2.1).mono ?_
      rintro e w7 ⟨rfl, hbl⟩
      exact hC _ _ hbl fun _ _ => rfl
    · refine stepR_plain rfl (by intro j h; omega) ?_
      intro a0 w9 K9 hF hB hK hC
      have b3 := hF.base (k := 3) (v := .pointer (some ⟨w.heap.size + 1, 0, none⟩)) (by kernel_rfl) rfl
      have x90 : w9.cell? ⟨w.heap.size + 1, 0, none⟩ = some (.bool s') := (CY.out.below hB CY.out.lt).cell 0
      have x91 : w9.cell? ⟨w.heap.size + 1, 1, none⟩ = some (.slice A' (limbs m).length c') := (CY.out.below hB CY.out.lt).cell 1
      have x92 : w9.cell? ⟨w.heap.size + 1, 2, none⟩ = some (.slice B' (limbs f0).length d') := (CY.out.below hB CY.out.lt).cell 2
      clear hF hB hK
      go_simp
      exact hC _ _ (bel_refl _) fun _ _ => rfl
    · refine stepR_plain rfl (by intro j h; omega) ?_
      intro a0 w9 K9 hF hB hK hC
      obtain ⟨v92, e92, z92⟩ := dep hK 0 (g := .data) (j := 2) (k := 92) rfl rfl rfl
      have z92 : v92 = .agg #[.bool s', .slice A' (limbs m).length c', .slice B' (limbs f0).length d'] := z92
      subst z92
      have HB9 := Lib.hid hB
      clear hF hB hK
      go_simp
      refine (refOf_any s' A' B' c' d' m f0 _ (R3.out.below HB9.out) (R4.out.below HB9.out) HP.out.1 HP.out.2.1).mono ?_
      rintro e w7 ⟨rfl, hbl⟩
      exact hC _ _ hbl fun _ _ => rfl
    · refine stepR_apart rfl ?_
      intro a0 w9 K9 hF hB hK hC
      have HB9 := Lib.hid hB
      clear hF hB hK
      go_simp
      exact hC _ _ (bel_alloc (bel_refl _) _) (fun _ _ => ⟨_, rfl, HB9.out.size, Blk.new _ _ _⟩) (fun j hj oj kj uj _ _ _ ht => by
        obtain rfl : j = 5 := by omega
        exact apart_new (show VNewF _ _ _ _ _ from ht))
    · refine stepR_apart rfl ?_
      intro a0 w9 K9 hF hB hK hC
      have HB9 := Lib.hid hB
      clear hF hB hK
      go_simp
      exact hC _ _ (bel_alloc (bel_refl _) _) (fun _ _ => ⟨_, rfl, HB9.out.size, Blk.new _ _ _⟩) (fun j hj oj kj uj _ _ _ ht => by
        obtain rfl : j = 4 := by omega
        exact apart_new (show VNewF _ _ _ _ _ from ht))
    case fin =>
      intro a0 w9 hF hB hK hA
      have b2 := hF.base (k := 2) (v := .pointer (some ⟨w.heap.size, 0, none⟩)) (by kernel_rfl) rfl
      have b3 := hF.base (k := 3) (v := .pointer (some ⟨w.heap.size + 1, 0, none⟩)) (by kernel_rfl) rfl
      have b6 := hF.base (k := 6) (v := .int .i64 c1) (by kernel_rfl) rfl
      have b8 := hF.base (k := 8) (v := .int .i64 c2) (by kernel_rfl) rfl
      have b10 := hF.base (k := 10) (v := .int .i64 c3) (by kernel_rfl) rfl
      have b12 := hF.base (k := 12) (v := .int .i64 c4) (by kernel_rfl) rfl
      have b5 := hF.base (k := 5) (v := .pointer (some ⟨w1.heap.size, 0, none⟩)) (by kernel_rfl) rfl
      have b7 := hF.base (k := 7) (v := .pointer (some ⟨w2.heap.size, 0, none⟩)) (by kernel_rfl) rfl
      have b9 := hF.base (k := 9) (v := .pointer (some ⟨w3.heap.size, 0, none⟩)) (by kernel_rfl) rfl
      have b11 := hF.base (k := 11) (v := .pointer (some ⟨w4.heap.size, 0, none⟩)) (by kernel_rfl) rfl
      have b13 := hF.base (k := 13) (v := .pointer (some ⟨w4.heap.size + 1, 0, none⟩)) (by kernel_rfl) rfl
      have hsz := hF.size
      have hdf := hF.defers
      clear hF
      obtain ⟨v14, e14, z14⟩ := known hK 4 (k := 14) (by decide) rfl
      have z14 : ∃ g, v14 = .pointer (some ⟨g, 0, none⟩) ∧ w6.heap.size ≤ g ∧ Blk w9 g 49 #[.bool false, .string ⟨#[]⟩, .string ⟨#[]⟩, .bool false] := z14
      obtain ⟨g14, rfl, hg14, FX14⟩ := z14
      obtain ⟨v15, e15, z15⟩ := known hK 5 (k := 15) (by decide) rfl
      have z15 : ∃ g, v15 = .pointer (some ⟨g, 0, none⟩) ∧ w6.heap.size ≤ g ∧ Blk w9 g 49 #[.bool false, .string ⟨#[]⟩, .string ⟨#[]⟩, .bool false] := z15
      obtain ⟨g15, rfl, hg15, FX15⟩ := z15
      obtain ⟨v91, e91, z91⟩ := known hK 1 (k := 91) (by decide) rfl
      have z91 : v91 = .agg #[.bool s, .string (dec n), .string (dec d0), .bool false] := z91
      subst z91
      obtain ⟨v93, e93, z93⟩ := known hK 3 (k := 93) (by decide) rfl
      have z93 : v93 = .agg #[.bool s', .string (dec m), .string (dec f0), .bool false] := z93
      subst z93
      have hne := hA 4 5 (by decide) (by decide) (Or.inl ⟨rfl, rfl⟩) _ _ 14 15 _ _ rfl rfl rfl rfl e14 e15
      have hgg : g15 ≠ g14 := fun h => hne (by rw [h])
      clear hne
      clear hK hA
      obtain ⟨⟨l0⟩, df⟩ := a0
      have hs0 : l0.length = 140 := hsz
      clear hsz
      replace hdf : df = _ := hdf
      subst hdf
      obtain ⟨u, rfl⟩ := lits_140 hs0
      clear hs0
      have q2 : u 2 = _ := Option.some.inj b2
      clear b2
      have q3 : u 3 = _ := Option.some.inj b3
      clear b3
      have q6 : u 6 = _ := Option.some.inj b6
      clear b6
      have q8 : u 8 = _ := Option.some.inj b8
      clear b8
      have q10 : u 10 = _ := Option.some.inj b10
      clear b10
      have q12 : u 12 = _ := Option.some.inj b12
      clear b12
      have q5 : u 5 = _ := Option.some.inj b5
      clear b5
      have q7 : u 7 = _ := Option.some.inj b7
      clear b7
      have q9 : u 9 = _ := Option.some.inj b9
      clear b9
      have q11 : u 11 = _ := Option.some.inj b11
      clear b11
      have q13 : u 13 = _ := Option.some.inj b13
      clear b13
      have q14 : u 14 = _ := Option.some.inj e14
      clear e14
      have q15 : u 15 = _ := Option.some.inj e15
      clear e15
      have q91 : u 91 = _ := Option.some.inj e91
      clear e91
      have q93 : u 93 = _ := Option.some.inj e93
      clear e93
      rw [q2, q3, q6, q8, q10, q12, q5, q7, q9, q11, q13, q14, q15, q91, q93]
      clear q2 q3 q6 q8 q10 q12 q5 q7 q9 q11 q13 q14 q15 q91 q93
      have hbl := hB; clear hB
      replace R1 := Lib.hid (R1.out.below hbl)
      replace R2 := Lib.hid (R2.out.below hbl)
      replace R3 := Lib.hid (R3.out.below hbl)
      replace R4 := Lib.hid (R4.out.below hbl)
      replace Rs := Lib.hid (Rs.out.below hbl)
      replace HNs := Lib.hid (HNs.out.below hbl)
      replace Rt := Lib.hid (Rt.out.below hbl)
      replace HNt := Lib.hid (HNt.out.below hbl)
      replace Ru := Lib.hid (Ru.out.below hbl)
      replace HNu := Lib.hid (HNu.out.below hbl)
      replace Rv := Lib.hid (Rv.out.below hbl)
      replace HNv := Lib.hid (HNv.out.below hbl)
      replace Rp := Lib.hid (Rp.out.below hbl)
      replace HNp := Lib.hid (HNp.out.below hbl)
      replace Rr := Lib.hid (Rr.out.below hbl)
      replace HNr := Lib.hid (HNr.out.below hbl)
      replace Rx := Lib.hid (Rx.out.below hbl)
      replace HNx := Lib.hid (HNx.out.below hbl)
      replace Ry := Lib.hid (Ry.out.below hbl)
      replace HNy := Lib.hid (HNy.out.below hbl)
      replace CX := Lib.hid (CX.out.below hbl CX.out.lt)
      replace CY := Lib.hid (CY.out.below hbl CY.out.lt)
      replace VS := Lib.hid (VS.out.below hbl VS.out.lt)
      replace VD := Lib.hid (VD.out.below hbl VD.out.lt)
      replace VP := Lib.hid (VP.out.below hbl VP.out.lt)
      replace VQ := Lib.hid (VQ.out.below hbl VQ.out.lt)
      replace VN := Lib.hid (VN.out.below hbl VN.out.lt)
      replace HW := Lib.hid (bel_trans HW.out hbl); clear hbl
      clear CX0 CX1 CX2 CY0 CY1 CY2 VS0 VS1 VS2 VD0 VD1 VD2 VP0 VP1 VP2 VQ0 VQ1 VQ2 VN0 VN1 VN2
      have CX0 : w9.cell? ⟨w.heap.size, 0, none⟩ = some (.bool s) := CX.out.cell 0
      have CX1 : w9.cell? ⟨w.heap.size, 1, none⟩ = some (.slice A (limbs n).length c) := CX.out.cell 1
      have CX2 : w9.cell? ⟨w.heap.size, 2, none⟩ = some (.slice B (limbs d0).length d) := CX.out.cell 2
      have CY0 : w9.cell? ⟨w.heap.size + 1, 0, none⟩ = some (.bool s') := CY.out.cell 0
      have CY1 : w9.cell? ⟨w.heap.size + 1, 1, none⟩ = some (.slice A' (limbs m).length c') := CY.out.cell 1
      have CY2 : w9.cell? ⟨w.heap.size + 1, 2, none⟩ = some (.slice B' (limbs f0).length d') := CY.out.cell 2
      have VS0 : w9.cell? ⟨w1.heap.size, 0, none⟩ = some (.bool q1.s) := VS.out.cell 0
      have VS1 : w9.cell? ⟨w1.heap.size, 1, none⟩ = some (.slice As (limbs q1.n).length cs) := VS.out.cell 1
      have VS2 : w9.cell? ⟨w1.heap.size, 2, none⟩ = some (.slice At (limbs q1.d).length ct) := VS.out.cell 2
      have VD0 : w9.cell? ⟨w2.heap.size, 0, none⟩ = some (.bool q2.s) := VD.out.cell 0
      have VD1 : w9.cell? ⟨w2.heap.size, 1, none⟩ = some (.slice Au (limbs q2.n).length cu) := VD.out.cell 1
      have VD2 : w9.cell? ⟨w2.heap.size, 2, none⟩ = some (.slice Av (limbs q2.d).length cv) := VD.out.cell 2
      have VP0 : w9.cell? ⟨w3.heap.size, 0, none⟩ = some (.bool q3.s) := VP.out.cell 0
      have VP1 : w9.cell? ⟨w3.heap.size, 1, none⟩ = some (.slice Ap (limbs q3.n).length cp) := VP.out.cell 1
      have VP2 : w9.cell? ⟨w3.heap.size, 2, none⟩ = some (.slice Ar (limbs q3.d).length cr) := VP.out.cell 2
      have VQ0 : w9.cell? ⟨w4.heap.size, 0, none⟩ = some (.bool q4.s) := VQ.out.cell 0
      have VQ1 : w9.cell? ⟨w4.heap.size, 1, none⟩ = some (.slice Ax (limbs q4.n).length cx) := VQ.out.cell 1
      have VQ2 : w9.cell? ⟨w4.heap.size, 2, none⟩ = some (.slice Ay (limbs q4.d).length cy) := VQ.out.cell 2
      have VN0 : w9.cell? ⟨w4.heap.size + 1, 0, none⟩ = some (.bool false) := VN.out.cell 0
      have VN1 : w9.cell? ⟨w4.heap.size + 1, 1, none⟩ = some (.slice none 0 0) := VN.out.cell 1
      have VN2 : w9.cell? ⟨w4.heap.size + 1, 2, none⟩ = some (.slice none 0 0) := VN.out.cell 2
      simp only [List.drop_succ_cons, List.drop_zero]
      replace FX14 := Lib.hid FX14
      replace FX15 := Lib.hid FX15
      clear CX0 CX1 CX2 CY0 CY1 CY2 VS0 VS1 VS2 VD0 VD1 VD2 VP0 VP1 VP2 VQ0 VQ1 VQ2 VN0 VN1 VN2
      have d140 := FX14.out.cell 0
      have f140 := FX14.out.frozen 0
      have d141 := FX14.out.cell 1
      have f141 := FX14.out.frozen 1
      have d142 := FX14.out.cell 2
      have f142 := FX14.out.frozen 2
      have d143 := FX14.out.cell 3
      have f143 := FX14.out.frozen 3
      have d150 := FX15.out.cell 0
      have f150 := FX15.out.frozen 0
      have d151 := FX15.out.cell 1
      have f151 := FX15.out.frozen 1
      have d152 := FX15.out.cell 2
      have f152 := FX15.out.frozen 2
      have d153 := FX15.out.cell 3
      have f153 := FX15.out.frozen 3
      go_upto_region 10 with fail
      clear d140 f140 d141 f141 d142 f142 d143 f143 d150 f150 d151 f151 d152 f152 d153 f153
      obtain ⟨wg, hwg⟩ : ∃ wg, wg = ((((((((w9.setCell ⟨g14, 0, none⟩ (.bool s)).setCell ⟨g14, 1, none⟩ (.string (dec n))).setCell ⟨g14, 2, none⟩ (.string (dec d0))).setCell ⟨g14, 3, none⟩ (.bool false)).setCell ⟨g15, 0, none⟩ (.bool s')).setCell ⟨g15, 1, none⟩ (.string (dec m))).setCell ⟨g15, 2, none⟩ (.string (dec f0))).setCell ⟨g15, 3, none⟩ (.bool false)) := ⟨_, rfl⟩
      rw [← hwg]
      replace R1 := Lib.hid (show RdL wg _ _ by rw [hwg]; exact RdL.set4 (((((FX15.out).far (p := ⟨g14, 0, none⟩) (by simp; omega) _).far (p := ⟨g14, 1, none⟩) (by simp; omega) _).far (p := ⟨g14, 2, none⟩) (by simp; omega) _).far (p := ⟨g14, 3, none⟩) (by simp; omega) _) (RdL.set4 (FX14.out) (R1.out) _ _ _ _) _ _ _ _)
      replace R2 := Lib.hid (show RdL wg _ _ by rw [hwg]; exact RdL.set4 (((((FX15.out).far (p := ⟨g14, 0, none⟩) (by simp; omega) _).far (p := ⟨g14, 1, none⟩) (by simp; omega) _).far (p := ⟨g14, 2, none⟩) (by simp; omega) _).far (p := ⟨g14, 3, none⟩) (by simp; omega) _) (RdL.set4 (FX14.out) (R2.out) _ _ _ _) _ _ _ _)
      replace R3 := Lib.hid (show RdL wg _ _ by rw [hwg]; exact RdL.set4 (((((FX15.out).far (p := ⟨g14, 0, none⟩) (by simp; omega) _).far (p := ⟨g14, 1, none⟩) (by simp; omega) _).far (p := ⟨g14, 2, none⟩) (by simp; omega) _).far (p := ⟨g14, 3, none⟩) (by simp; omega) _) (RdL.set4 (FX14.out) (R3.out) _ _ _ _) _ _ _ _)
      replace R4 := Lib.hid (show RdL wg _ _ by rw [hwg]; exact RdL.set4 (((((FX15.out).far (p := ⟨g14, 0, none⟩) (by simp; omega) _).far (p := ⟨g14, 1, none⟩) (by simp; omega) _).far (p := ⟨g14, 2, none⟩) (by simp; omega) _).far (p := ⟨g14, 3, none⟩) (by simp; omega) _) (RdL.set4 (FX14.out) (R4.out) _ _ _ _) _ _ _ _)
      replace Rs := Lib.hid (show RdL wg _ _ by rw [hwg]; exact RdL.set4 (((((FX15.out).far (p := ⟨g14, 0, none⟩) (by simp; omega) _).far (p := ⟨g14, 1, none⟩) (by simp; omega) _).far (p := ⟨g14, 2, none⟩) (by simp; omega) _).far (p := ⟨g14, 3, none⟩) (by simp; omega) _) (RdL.set4 (FX14.out) (Rs.out) _ _ _ _) _ _ _ _)
      replace HNs := Lib.hid (show RdN wg _ _ by rw [hwg]; exact RdN.set4 (((((FX15.out).far (p := ⟨g14, 0, none⟩) (by simp; omega) _).far (p := ⟨g14, 1, none⟩) (by simp; omega) _).far (p := ⟨g14, 2, none⟩) (by simp; omega) _).far (p := ⟨g14, 3, none⟩) (by simp; omega) _) (RdN.set4 (FX14.out) (HNs.out) _ _ _ _) _ _ _ _)
      replace Rt := Lib.hid (show RdL wg _ _ by rw [hwg]; exact RdL.set4 (((((FX15.out).far (p := ⟨g14, 0, none⟩) (by simp; omega) _).far (p := ⟨g14, 1, none⟩) (by simp; omega) _).far (p := ⟨g14, 2, none⟩) (by simp; omega) _).far (p := ⟨g14, 3, none⟩) (by simp; omega) _) (RdL.set4 (FX14.out) (Rt.out) _ _ _ _) _ _ _ _)
      replace HNt := Lib.hid (show RdN wg _ _ by rw [hwg]; exact RdN.set4 (((((FX15.out).far (p := ⟨g14, 0, none⟩) (by simp; omega) _).far (p := ⟨g14, 1, none⟩) (by simp; omega) _).far (p := ⟨g14, 2, none⟩) (by simp; omega) _).far (p := ⟨g14, 3, none⟩) (by simp; omega) _) (RdN.set4 (FX14.out) (HNt.out) _ _ _ _) _ _ _ _)
      replace Ru := Lib.hid (show RdL wg _ _ by rw [hwg]; exact RdL.set4 (((((FX15.out).far (p := ⟨g14, 0, none⟩) (by simp; omega) _).far (p := ⟨g14, 1, none⟩) (by simp; omega) _).far (p := ⟨g14, 2, none⟩) (by simp; omega) _).far (p := ⟨g14, 3, none⟩) (by simp; omega) _) (RdL.set4 (FX14.out) (Ru.out) _ _ _ _) _ _ _ _)
      replace HNu := Lib.hid (show RdN wg _ _ by rw [hwg]; exact RdN.set4 (((((FX15.out).far (p := ⟨g14, 0, none⟩) (by simp; omega) _).far (p := ⟨g14, 1, none⟩) (by simp; omega) _).far (p := ⟨g14, 2, none⟩) (by simp; omega) _).far (p := ⟨g14, 3, none⟩) (by simp; omega) _) (RdN.set4 (FX14.out) (HNu.out) _ _ _ _) _ _ _ _)
      replace Rv := Lib.hid (show RdL wg _ _ by rw [hwg]; exact RdL.set4 (((((FX15.out).far (p := ⟨g14, 0, none⟩) (by simp; omega) _).far (p := ⟨g14, 1, none⟩) (by simp; omega) _).far (p := ⟨g14, 2, none⟩) (by simp; omega) _).far (p := ⟨g14, 3, none⟩) (by simp; omega) _) (RdL.set4 (FX14.out) (Rv.out) _ _ _ _) _ _ _ _)
      replace HNv := Lib.hid (show RdN wg _ _ by rw [hwg]; exact RdN.set4 (((((FX15.out).far (p := ⟨g14, 0, none⟩) (by simp; omega) _).far (p := ⟨g14, 1, none⟩) (by simp; omega) _).far (p := ⟨g14, 2, none⟩) (by simp; omega) _).far (p := ⟨g14, 3, none⟩) (by simp; omega) _) (RdN.set4 (FX14.out) (HNv.out) _ _ _ _) _ _ _ _)
      replace Rp := Lib.hid (show RdL wg _ _ by rw [hwg]; exact RdL.set4 (((((FX15.out).far (p := ⟨g14, 0, none⟩) (by simp; omega) _).far (p := ⟨g14, 1, none⟩) (by simp; omega) _).far (p := ⟨g14, 2, none⟩) (by simp; omega) _).far (p := ⟨g14, 3, none⟩) (by simp; omega) _) (RdL.set4 (FX14.out) (Rp.out) _ _ _ _) _ _ _ _)
      replace HNp := Lib.hid (show RdN wg _ _ by rw [hwg]; exact RdN.set4 (((((FX15.out).far (p := ⟨g14, 0, none⟩) (by simp; omega) _).far (p := ⟨g14, 1, none⟩) (by simp; omega) _).far (p := ⟨g14, 2, none⟩) (by simp; omega) _).far (p := ⟨g14, 3, none⟩) (by simp; omega) _) (RdN.set4 (FX14.out) (HNp.out) _ _ _ _) _ _ _ _)
      replace Rr := Lib.hid (show RdL wg _ _ by rw [hwg]; exact RdL.set4 (((((FX15.out).far (p := ⟨g14, 0, none⟩) (by simp; omega) _).far (p := ⟨g14, 1, none⟩) (by simp; omega) _).far (p := ⟨g14, 2, none⟩) (by simp; omega) _).far (p := ⟨g14, 3, none⟩) (by simp; omega) _) (RdL.set4 (FX14.out) (Rr.out) _ _ _ _) _ _ _ _)
      replace HNr := Lib.hid (show RdN wg _ _ by rw [hwg]; exact RdN.set4 (((((FX15.out).far (p := ⟨g14, 0, none⟩) (by simp; omega) _).far (p := ⟨g14, 1, none⟩) (by simp; omega) _).far (p := ⟨g14, 2, none⟩) (by simp; omega) _).far (p := ⟨g14, 3, none⟩) (by simp; omega) _) (RdN.set4 (FX14.out) (HNr.out) _ _ _ _) _ _ _ _)
      replace Rx := Lib.hid (show RdL wg _ _ by rw [hwg]; exact RdL.set4 (((((FX15.out).far (p := ⟨g14, 0, none⟩) (by simp; omega) _).far (p := ⟨g14, 1, none⟩) (by simp; omega) _).far (p := ⟨g14, 2, none⟩) (by simp; omega) _).far (p := ⟨g14, 3, none⟩) (by simp; omega) _) (RdL.set4 (FX14.out) (Rx.out) _ _ _ _) _ _ _ _)
      replace HNx := Lib.hid (show RdN wg _ _ by rw [hwg]; exact RdN.set4 (((((FX15.out).far (p := ⟨g14, 0, none⟩) (by simp; omega) _).far (p := ⟨g14, 1, none⟩) (by simp; omega) _).far (p := ⟨g14, 2, none⟩) (by simp; omega) _).far (p := ⟨g14, 3, none⟩) (by simp; omega) _) (RdN.set4 (FX14.out) (HNx.out) _ _ _ _) _ _ _ _)
      replace Ry := Lib.hid (show RdL wg _ _ by rw [hwg]; exact RdL.set4 (((((FX15.out).far (p := ⟨g14, 0, none⟩) (by simp; omega) _).far (p := ⟨g14, 1, none⟩) (by simp; omega) _).far (p := ⟨g14, 2, none⟩) (by simp; omega) _).far (p := ⟨g14, 3, none⟩) (by simp; omega) _) (RdL.set4 (FX14.out) (Ry.out) _ _ _ _) _ _ _ _)
      replace HNy := Lib.hid (show RdN wg _ _ by rw [hwg]; exact RdN.set4 (((((FX15.out).far (p := ⟨g14, 0, none⟩) (by simp; omega) _).far (p := ⟨g14, 1, none⟩) (by simp; omega) _).far (p := ⟨g14, 2, none⟩) (by simp; omega) _).far (p := ⟨g14, 3, none⟩) (by simp; omega) _) (RdN.set4 (FX14.out) (HNy.out) _ _ _ _) _ _ _ _)
      have CX_ := Lib.hid (show Blk wg (w.heap.size) 25 #[.bool s, .slice A (limbs n).length c, .slice B (limbs d0).length d] by rw [hwg]; exact ((((((((CX.out).far (p := ⟨g14, 0, none⟩) (by simp; omega) _).far (p := ⟨g14, 1, none⟩) (by simp; omega) _).far (p := ⟨g14, 2, none⟩) (by simp; omega) _).far (p := ⟨g14, 3, none⟩) (by simp; omega) _).far (p := ⟨g15, 0, none⟩) (by simp; omega) _).far (p := ⟨g15, 1, none⟩) (by simp; omega) _).far (p := ⟨g15, 2, none⟩) (by simp; omega) _).far (p := ⟨g15, 3, none⟩) (by simp; omega) _)
      have CY_ := Lib.hid (show Blk wg (w.heap.size + 1) 25 #[.bool s', .slice A' (limbs m).length c', .slice B' (limbs f0).length d'] by rw [hwg]; exact ((((((((CY.out).far (p := ⟨g14, 0, none⟩) (by simp; omega) _).far (p := ⟨g14, 1, none⟩) (by simp; omega) _).far (p := ⟨g14, 2, none⟩) (by simp; omega) _).far (p := ⟨g14, 3, none⟩) (by simp; omega) _).far (p := ⟨g15, 0, none⟩) (by simp; omega) _).far (p := ⟨g15, 1, none⟩) (by simp; omega) _).far (p := ⟨g15, 2, none⟩) (by simp; omega) _).far (p := ⟨g15, 3, none⟩) (by simp; omega) _)
      have VS_ := Lib.hid (show Blk wg (w1.heap.size) 25 #[.bool q1.s, .slice As (limbs q1.n).length cs, .slice At (limbs q1.d).length ct] by rw [hwg]; exact ((((((((VS.out).far (p := ⟨g14, 0, none⟩) (by simp; omega) _).far (p := ⟨g14, 1, none⟩) (by simp; omega) _).far (p := ⟨g14, 2, none⟩) (by simp; omega) _).far (p := ⟨g14, 3, none⟩) (by simp; omega) _).far (p := ⟨g15, 0, none⟩) (by simp; omega) _).far (p := ⟨g15, 1, none⟩) (by simp; omega) _).far (p := ⟨g15, 2, none⟩) (by simp; omega) _).far (p := ⟨g15, 3, none⟩) (by simp; omega) _)
      have VD_ := Lib.hid (show Blk wg (w2.heap.size) 25 #[.bool q2.s, .slice Au (limbs q2.n).length cu, .slice Av (limbs q2.d).length cv] by rw [hwg]; exact ((((((((VD.out).far (p := ⟨g14, 0, none⟩) (by simp; omega) _).far (p := ⟨g14, 1, none⟩) (by simp; omega) _).far (p := ⟨g14, 2, none⟩) (by simp; omega) _).far (p := ⟨g14, 3, none⟩) (by simp; omega) _).far (p := ⟨g15, 0, none⟩) (by simp; omega) _).far (p := ⟨g15, 1, none⟩) (by simp; omega) _).far (p := ⟨g15, 2, none⟩) (by simp; omega) _).far (p := ⟨g15, 3, none⟩) (by simp; omega) _)
      have VP_ := Lib.hid (show Blk wg (w3.heap.size) 25 #[.bool q3.s, .slice Ap (limbs q3.n).length cp, .slice Ar (limbs q3.d).length cr] by rw [hwg]; exact ((((((((VP.out).far (p := ⟨g14, 0, none⟩) (by simp; omega) _).far (p := ⟨g14, 1, none⟩) (by simp; omega) _).far (p := ⟨g14, 2, none⟩) (by simp; omega) _).far (p := ⟨g14, 3, none⟩) (by simp; omega) _).far (p := ⟨g15, 0, none⟩) (by simp; omega) _).far (p := ⟨g15, 1, none⟩) (by simp; omega) _).far (p := ⟨g15, 2, none⟩) (by simp; omega) _).far (p := ⟨g15, 3, none⟩) (by simp; omega) _)
      have VQ_ := Lib.hid (show Blk wg (w4.heap.size) 25 #[.bool q4.s, .slice Ax (limbs q4.n).length cx, .slice Ay (limbs q4.d).length cy] by rw [hwg]; exact ((((((((VQ.out).far (p := ⟨g14, 0, none⟩) (by simp; omega) _).far (p := ⟨g14, 1, none⟩) (by simp; omega) _).far (p := ⟨g14, 2, none⟩) (by simp; omega) _).far (p := ⟨g14, 3, none⟩) (by simp; omega) _).far (p := ⟨g15, 0, none⟩) (by simp; omega) _).far (p := ⟨g15, 1, none⟩) (by simp; omega) _).far (p := ⟨g15, 2, none⟩) (by simp; omega) _).far (p := ⟨g15, 3, none⟩) (by simp; omega) _)
      have VN_ := Lib.hid (show Blk wg (w4.heap.size + 1) 25 #[.bool false, .slice none 0 0, .slice none 0 0] by rw [hwg]; exact ((((((((VN.out).far (p := ⟨g14, 0, none⟩) (by simp; omega) _).far (p := ⟨g14, 1, none⟩) (by simp; omega) _).far (p := ⟨g14, 2, none⟩) (by simp; omega) _).far (p := ⟨g14, 3, none⟩) (by simp; omega) _).far (p := ⟨g15, 0, none⟩) (by simp; omega) _).far (p := ⟨g15, 1, none⟩) (by simp; omega) _).far (p := ⟨g15, 2, none⟩) (by simp; omega) _).far (p := ⟨g15, 3, none⟩) (by simp; omega) _)
      have FX14_ := Lib.hid (show Blk wg (g14) 49 #[.bool s, .string (dec n), .string (dec d0), .bool false] by rw [hwg]; exact ((((((((FX14.out).put 0 (.bool s)).put 1 (.string (dec n))).put 2 (.string (dec d0))).put 3 (.bool false)).far (p := ⟨g15, 0, none⟩) (by simp; omega) _).far (p := ⟨g15, 1, none⟩) (by simp; omega) _).far (p := ⟨g15, 2, none⟩) (by simp; omega) _).far (p := ⟨g15, 3, none⟩) (by simp; omega) _)
      have FX15_ := Lib.hid (show Blk wg (g15) 49 #[.bool s', .string (dec m), .string (dec f0), .bool false] by rw [hwg]; exact ((((((((FX15.out).far (p := ⟨g14, 0, none⟩) (by simp; omega) _).far (p := ⟨g14, 1, none⟩) (by simp; omega) _).far (p := ⟨g14, 2, none⟩) (by simp; omega) _).far (p := ⟨g14, 3, none⟩) (by simp; omega) _).put 0 (.bool s')).put 1 (.string (dec m))).put 2 (.string (dec f0))).put 3 (.bool false))
      replace CX := CX_; clear CX_
      replace CY := CY_; clear CY_
      replace VS := VS_; clear VS_
      replace VD := VD_; clear VD_
      replace VP := VP_; clear VP_
      replace VQ := VQ_; clear VQ_
      replace VN := VN_; clear VN_
      replace FX14 := FX14_; clear FX14_
      replace FX15 := FX15_; clear FX15_
      replace HW := Lib.hid (show Below w.heap.size w wg by rw [hwg]; exact bel_set (p := ⟨g15, 3, none⟩) (bel_set (p := ⟨g15, 2, none⟩) (bel_set (p := ⟨g15, 1, none⟩) (bel_set (p := ⟨g15, 0, none⟩) (bel_set (p := ⟨g14, 3, none⟩) (bel_set (p := ⟨g14, 2, none⟩) (bel_set (p := ⟨g14, 1, none⟩) (bel_set (p := ⟨g14, 0, none⟩) (HW.out) (by show w.heap.size ≤ g14; omega) _) (by show w.heap.size ≤ g14; omega) _) (by show w.heap.size ≤ g14; omega) _) (by show w.heap.size ≤ g14; omega) _) (by show w.heap.size ≤ g15; omega) _) (by show w.heap.size ≤ g15; omega) _) (by show w.heap.size ≤ g15; omega) _) (by show w.heap.size ≤ g15; omega) _)
      clear hwg
      refine wp_region_typedG 30 (TOf [VIs (.agg #[.bool q1.s, .slice As (limbs q1.n).length cs, .slice At (limbs q1.d).length ct]),
          VIs (.int .i64 c1),
          VIs (.agg #[.bool s, .string (dec n), .string (dec d0), .bool false]),
          VIs (.agg #[.bool s', .string (dec m), .string (dec f0), .bool false]),
          VIs (.agg #[.bool f1.s, .string (dec f1.n), .string (dec f1.d), .bool ov1]),
          VIs (.bool true),
          VIs (.bool false),
          VIs (.bool false),
          VIs (.agg #[.bool q2.s, .slice Au (limbs q2.n).length cu, .slice Av (limbs q2.d).length cv]),
          VIs (.int .i64 c2),
          VIs (.agg #[.bool s, .string (dec n), .string (dec d0), .bool false]),
          VIs (.agg #[.bool s', .string (dec m), .string (dec f0), .bool false]),
          VIs (.agg #[.bool (!s'), .string (dec m), .string (dec f0), .bool false]),
          VIs (.agg #[.bool f2.s, .string (dec f2.n), .string (dec f2.d), .bool ov2]),
          VIs (.bool true),
          VIs (.bool false),
          VIs (.bool false),
          VIs (.bool false),
          VIs (.agg #[.bool q3.s, .slice Ap (limbs q3.n).length cp, .slice Ar (limbs q3.d).length cr]),
          VIs (.int .i64 c3),
          VIs (.agg #[.bool s, .string (dec n), .string (dec d0), .bool false]),
          VIs (.agg #[.bool s', .string (dec m), .string (dec f0), .bool false]),
          VIs (.agg #[.bool f3.s, .string (dec f3.n), .string (dec f3.d), .bool ov3]),
          VIs (.bool true),
          VIs (.bool false),
          VIs (.bool false),
          VIs (.bool false),
          VIs (.bool true),
          VIs (.bool false),
          VIs (.bool false)]) (by kernel_rfl) (by kernel_rfl) (by kernel_rfl) (LiftAll.at_ (.cons (VIs.lift _) (.cons (VIs.lift _) (.cons (VIs.lift _) (.cons (VIs.lift _) (.cons (VIs.lift _) (.cons (VIs.lift _) (.cons (VIs.lift _) (.cons (VIs.lift _) (.cons (VIs.lift _) (.cons (VIs.lift _) (.cons (VIs.lift _) (.cons (VIs.lift _) (.cons (VIs.lift _) (.cons (VIs.lift _) (.cons (VIs.lift _) (.cons (VIs.lift _) (.cons (VIs.lift _) (.cons (VIs.lift _) (.cons (VIs.lift _) (.cons (VIs.lift _) (.cons (VIs.lift _) (.cons (VIs.lift _) (.cons (VIs.lift _) (.cons (VIs.lift _) (.cons (VIs.lift _) (.cons (VIs.lift _) (.cons (VIs.lift _) (.cons (VIs.lift _) (.cons (VIs.lift _) (.cons (VIs.lift _) .nil))))))))))))))))))))))))))))))) (stepsG_all (stepsG_cons ?_ (stepsG_cons ?_ (stepsG_cons ?_ (stepsG_cons ?_ (stepsG_cons ?_ (stepsG_cons ?_ (stepsG_cons ?_ (stepsG_cons ?_ (stepsG_cons ?_ (stepsG_cons ?_ (stepsG_cons ?_ (stepsG_cons ?_ (stepsG_cons ?_ (stepsG_cons ?_ (stepsG_cons ?_ (stepsG_cons ?_ (stepsG_cons ?_ (stepsG_cons ?_ (stepsG_cons ?_ (stepsG_cons ?_ (stepsG_cons ?_ (stepsG_cons ?_ (stepsG_cons ?_ (stepsG_cons ?_ (stepsG_cons ?_ (stepsG_cons ?_ (stepsG_cons ?_ (stepsG_cons ?_ (stepsG_cons ?_ (stepsG_cons ?_ stepsG_zero))))))))))))))))))))))))))))))) ?fin
      · refine stepG_plain rfl ?_
        intro a0 w9 K9 hF hB hK hC
        have b5 := hF.base (k := 5) (v := .pointer (some ⟨w1.heap.size, 0, none⟩)) (by kernel_rfl) rfl
        have x90 : w9.cell? ⟨w1.heap.size, 0, none⟩ = some (.bool q1.s) := (VS.out.below hB VS.out.lt).cell 0
        have x91 : w9.cell? ⟨w1.heap.size, 1, none⟩ = some (.slice As (limbs q1.n).length cs) := (VS.out.below hB VS.out.lt).cell 1
        have x92 : w9.cell? ⟨w1.heap.size, 2, none⟩ = some (.slice At (limbs q1.d).length ct) := (VS.out.below hB VS.out.lt).cell 2
        clear hF hB hK
        go_simp
        exact hC _ _ (bel_refl _) fun _ _ => rfl
      · refine stepG_plain rfl ?_
        intro a0 w9 K9 hF hB hK hC
        have b6 := hF.base (k := 6) (v := .int .i64 c1) (by kernel_rfl) rfl
        clear hF hB hK
        go_simp
        exact hC _ _ (bel_refl _) fun _ _ => rfl
      · refine stepG_plain rfl ?_
        intro a0 w9 K9 hF hB hK hC
        have b14 := hF.base (k := 14) (v := .pointer (some ⟨g14, 0, none⟩)) (by kernel_rfl) rfl
        have x90 : w9.cell? ⟨g14, 0, none⟩ = some (.bool s) := (FX14.out.below hB FX14.out.lt).cell 0
        have x91 : w9.cell? ⟨g14, 1, none⟩ = some (.string (dec n)) := (FX14.out.below hB FX14.out.lt).cell 1
        have x92 : w9.cell? ⟨g14, 2, none⟩ = some (.string (dec d0)) := (FX14.out.below hB FX14.out.lt).cell 2
        have x93 : w9.cell? ⟨g14, 3, none⟩ = some (.bool false) := (FX14.out.below hB FX14.out.lt).cell 3
        clear hF hB hK
        go_simp
        exact hC _ _ (bel_refl _) fun _ _ => rfl
      · refine stepG_plain rfl ?_
        intro a0 w9 K9 hF hB hK hC
        have b15 := hF.base (k := 15) (v := .pointer (some ⟨g15, 0, none⟩)) (by kernel_rfl) rfl
        have x90 : w9.cell? ⟨g15, 0, none⟩ = some (.bool s') := (FX15.out.below hB FX15.out.lt).cell 0
        have x91 : w9.cell? ⟨g15, 1, none⟩ = some (.string (dec m)) := (FX15.out.below hB FX15.out.lt).cell 1
        have x92 : w9.cell? ⟨g15, 2, none⟩ = some (.string (dec f0)) := (FX15.out.below hB FX15.out.lt).cell 2
        have x93 : w9.cell? ⟨g15, 3, none⟩ = some (.bool false) := (FX15.out.below hB FX15.out.lt).cell 3
        clear hF hB hK
        go_simp
        exact hC _ _ (bel_refl _) fun _ _ => rfl
      · refine stepG_plain rfl ?_
        intro a0 w9 K9 hF hB hK hC
        obtain ⟨v96, e96, z96⟩ := dep hK 0 (g := .data) (j := 2) (k := 96) rfl rfl rfl
        have z96 : v96 = .agg #[.bool s, .string (dec n), .string (dec d0), .bool false] := z96
        subst z96
        obtain ⟨v97, e97, z97⟩ := dep hK 1 (g := .data) (j := 3) (k := 97) rfl rfl rfl
        have z97 : v97 = .agg #[.bool s', .string (dec m), .string (dec f0), .bool false] := z97
        subst z97
        have HB9 := Lib.hid hB
        clear hF hB hK
        go_simp
        refine (ref_add (q := f1) (k := ov1) ⟨s, n, d0⟩ ⟨s', m, f0⟩ _ DL.out.1 DL.out.2.1 DL.out.2.2.1 DL.out.2.2.2 (by have := E1.out.1; rw [Bool.bne_false] at this; exact this) E1.out.2).mono ?_
        rintro e w7 ⟨rfl, hbl⟩
        exact hC _ _ hbl fun _ _ => rfl
      · refine stepG_plain rfl ?_
        intro a0 w9 K9 hF hB hK hC
        obtain ⟨v94, e94, z94⟩ := dep hK 0 (g := .data) (j := 0) (k := 94) rfl rfl rfl
        have z94 : v94 = .agg #[.bool q1.s, .slice As (limbs q1.n).length cs, .slice At (limbs q1.d).length ct] := z94
        subst z94
        obtain ⟨v95, e95, z95⟩ := dep hK 1 (g := .data) (j := 1) (k := 95) rfl rfl rfl
        have z95 : v95 = .int .i64 c1 := z95
        subst z95
        obtain ⟨v98, e98, z98⟩ := dep hK 2 (g := .data) (j := 4) (k := 98) rfl rfl rfl
        have z98 : v98 = .agg #[.bool f1.s, .string (dec f1.n), .string (dec f1.d), .bool ov1] := z98
        subst z98
        have HB9 := Lib.hid hB
        clear hF hB hK
        go_simp
        refine (isQ_ans A1.out As At cs ct _ (Rs.out.below HB9.out) (Rt.out.below HB9.out)).mono ?_
        rintro e w7 ⟨rfl, hbl⟩
        exact hC _ _ hbl fun _ _ => rfl
      · refine stepG_plain rfl ?_
        intro a0 w9 K9 hF hB hK hC
        obtain ⟨v99, e99, z99⟩ := dep hK 0 (g := .data) (j := 5) (k := 99) rfl rfl rfl
        have z99 : v99 = .bool true := z99
        subst z99
        have HB9 := Lib.hid hB
        clear hF hB hK
        go_simp
        exact hC _ _ (bel_refl _) fun _ _ => rfl
      · refine stepG_plain rfl ?_
        intro a0 w9 K9 hF hB hK hC
        obtain ⟨v100, e100, z100⟩ := dep hK 0 (g := .data) (j := 6) (k := 100) rfl rfl rfl
        have z100 : v100 = .bool false := z100
        subst z100
        clear hF hB hK
        go_simp
        exact hC _ _ (bel_refl _) fun _ _ => rfl
      · intro a0 w9 K9 hF hB hK hC
        obtain ⟨vg, eg, zg⟩ := dep hK 0 (g := .guard) (j := 7) (k := 101) rfl rfl rfl
        have zg : vg = .bool false := zg
        subst zg
        refine guard_in (j := 7) (k := 101) (want := false) rfl rfl eg rfl ?_
        have b7 := hF.base (k := 7) (v := .pointer (some ⟨w2.heap.size, 0, none⟩)) (by kernel_rfl) rfl
        have x90 : w9.cell? ⟨w2.heap.size, 0, none⟩ = some (.bool q2.s) := (VD.out.below hB VD.out.lt).cell 0
        have x91 : w9.cell? ⟨w2.heap.size, 1, none⟩ = some (.slice Au (limbs q2.n).length cu) := (VD.out.below hB VD.out.lt).cell 1
        have x92 : w9.cell? ⟨w2.heap.size, 2, none⟩ = some (.slice Av (limbs q2.d).length cv) := (VD.out.below hB VD.out.lt).cell 2
        clear hF hB hK
        go_simp
        exact hC _ _ (bel_refl _) fun _ _ => rfl
      · intro a0 w9 K9 hF hB hK hC
        obtain ⟨vg, eg, zg⟩ := dep hK 0 (g := .guard) (j := 7) (k := 101) rfl rfl rfl
        have zg : vg = .bool false := zg
        subst zg
        refine guard_in (j := 7) (k := 101) (want := false) rfl rfl eg rfl ?_
        have b8 := hF.base (k := 8) (v := .int .i64 c2) (by kernel_rfl) rfl
        clear hF hB hK
        go_simp
        exact hC _ _ (bel_refl _) fun _ _ => rfl
      · intro a0 w9 K9 hF hB hK hC
        obtain ⟨vg, eg, zg⟩ := dep hK 0 (g := .guard) (j := 7) (k := 101) rfl rfl rfl
        have zg : vg = .bool false := zg
        subst zg
        refine guard_in (j := 7) (k := 101) (want := false) rfl rfl eg rfl ?_
        have b14 := hF.base (k := 14) (v := .pointer (some ⟨g14, 0, none⟩)) (by kernel_rfl) rfl
        have x90 : w9.cell? ⟨g14, 0, none⟩ = some (.bool s) := (FX14.out.below hB FX14.out.lt).cell 0
        have x91 : w9.cell? ⟨g14, 1, none⟩ = some (.string (dec n)) := (FX14.out.below hB FX14.out.lt).cell 1
        have x92 : w9.cell? ⟨g14, 2, none⟩ = some (.string (dec d0)) := (FX14.out.below hB FX14.out.lt).cell 2
        have x93 : w9.cell? ⟨g14, 3, none⟩ = some (.bool false) := (FX14.out.below hB FX14.out.lt).cell 3
        clear hF hB hK
        go_simp
        exact hC _ _ (bel_refl _) fun _ _ => rfl
      · intro a0 w9 K9 hF hB hK hC
        obtain ⟨vg, eg, zg⟩ := dep hK 0 (g := .guard) (j := 7) (k := 101) rfl rfl rfl
        have zg : vg = .bool false := zg
        subst zg
        refine guard_in (j := 7) (k := 101) (want := false) rfl rfl eg rfl ?_
        have b15 := hF.base (k := 15) (v := .pointer (some ⟨g15, 0, none⟩)) (by kernel_rfl) rfl
        have x90 : w9.cell? ⟨g15, 0, none⟩ = some (.bool s') := (FX15.out.below hB FX15.out.lt).cell 0
        have x91 : w9.cell? ⟨g15, 1, none⟩ = some (.string (dec m)) := (FX15.out.below hB FX15.out.lt).cell 1
        have x92 : w9.cell? ⟨g15, 2, none⟩ = some (.string (dec f0)) := (FX15.out.below hB FX15.out.lt).cell 2
        have x93 : w9.cell? ⟨g15, 3, none⟩ = some (.bool false) := (FX15.out.below hB FX15.out.lt).cell 3
        clear hF hB hK
        go_simp
        exact hC _ _ (bel_refl _) fun _ _ => rfl
      · intro a0 w9 K9 hF hB hK hC
        obtain ⟨vg, eg, zg⟩ := dep hK 2 (g := .guard) (j := 7) (k := 101) rfl rfl rfl
        have zg : vg = .bool false := zg
        subst zg
        refine guard_in (j := 7) (k := 101) (want := false) rfl rfl eg rfl ?_
        obtain ⟨v105, e105, z105⟩ := dep hK 0 (g := .data) (j := 11) (k := 105) rfl rfl rfl
        have z105 : v105 = .agg #[.bool s', .string (dec m), .string (dec f0), .bool false] := z105
        subst z105
        have HB9 := Lib.hid hB
        clear hF hB hK
        go_simp
        refine (refLess_any s' m f0 false _).mono ?_
        rintro e w7 ⟨rfl, hbl⟩
        exact hC _ _ hbl fun _ _ => rfl
      · intro a0 w9 K9 hF hB hK hC
        obtain ⟨vg, eg, zg⟩ := dep hK 3 (g := .guard) (j := 7) (k := 101) rfl rfl rfl
        have zg : vg = .bool false := zg
        subst zg
        refine guard_in (j := 7) (k := 101) (want := false) rfl rfl eg rfl ?_
        obtain ⟨v104, e104, z104⟩ := dep hK 0 (g := .data) (j := 10) (k := 104) rfl rfl rfl
        have z104 : v104 = .agg #[.bool s, .string (dec n), .string (dec d0), .bool false] := z104
        subst z104
        obtain ⟨v106, e106, z106⟩ := dep hK 1 (g := .data) (j := 12) (k := 106) rfl rfl rfl
        have z106 : v106 = .agg #[.bool (!s'), .string (dec m), .string (dec f0), .bool false] := z106
        subst z106
        have HB9 := Lib.hid hB
        clear hF hB hK
        go_simp
        refine (ref_add (q := f2) (k := ov2) ⟨s, n, d0⟩ ⟨!s', m, f0⟩ _ DL.out.1 DL.out.2.1 DL.out.2.2.1 DL.out.2.2.2 (by have := E2.out.1; rw [Bool.bne_true] at this; exact this) E2.out.2).mono ?_
        rintro e w7 ⟨rfl, hbl⟩
        exact hC _ _ hbl fun _ _ => rfl
      · intro a0 w9 K9 hF hB hK hC
        obtain ⟨vg, eg, zg⟩ := dep hK 4 (g := .guard) (j := 7) (k := 101) rfl rfl rfl
        have zg : vg = .bool false := zg
        subst zg
        refine guard_in (j := 7) (k := 101) (want := false) rfl rfl eg rfl ?_
        obtain ⟨v102, e102, z102⟩ := dep hK 0 (g := .data) (j := 8) (k := 102) rfl rfl rfl
        have z102 : v102 = .agg #[.bool q2.s, .slice Au (limbs q2.n).length cu, .slice Av (limbs q2.d).length cv] := z102
        subst z102
        obtain ⟨v103, e103, z103⟩ := dep hK 1 (g := .data) (j := 9) (k := 103) rfl rfl rfl
        have z103 : v103 = .int .i64 c2 := z103
        subst z103
        obtain ⟨v107, e107, z107⟩ := dep hK 2 (g := .data) (j := 13) (k := 107) rfl rfl rfl
        have z107 : v107 = .agg #[.bool f2.s, .string (dec f2.n), .string (dec f2.d), .bool ov2] := z107
        subst z107
        have HB9 := Lib.hid hB
        clear hF hB hK
        go_simp
        refine (isQ_ans A2.out Au Av cu cv _ (Ru.out.below HB9.out) (Rv.out.below HB9.out)).mono ?_
        rintro e w7 ⟨rfl, hbl⟩
        exact hC _ _ hbl fun _ _ => rfl
      · intro a0 w9 K9 hF hB hK hC
        obtain ⟨vg, eg, zg⟩ := dep hK 1 (g := .guard) (j := 7) (k := 101) rfl rfl rfl
        have zg : vg = .bool false := zg
        subst zg
        refine guard_in (j := 7) (k := 101) (want := false) rfl rfl eg rfl ?_
        obtain ⟨v108, e108, z108⟩ := dep hK 0 (g := .data) (j := 14) (k := 108) rfl rfl rfl
        have z108 : v108 = .bool true := z108
        subst z108
        have HB9 := Lib.hid hB
        clear hF hB hK
        go_simp
        exact hC _ _ (bel_refl _) fun _ _ => rfl
      · refine stepG_plain rfl ?_
        intro a0 w9 K9 hF hB hK hC
        obtain ⟨v101, e101, z101⟩ := dep hK 0 (g := .data) (j := 7) (k := 101) rfl rfl rfl
        have z101 : v101 = .bool false := z101
        subst z101
        obtain ⟨v109, e109, z109⟩ := dep hK 1 (g := .data) (j := 15) (k := 109) rfl rfl rfl
        have z109 : v109 = .bool false := z109
        subst z109
        have HB9 := Lib.hid hB
        clear hF hB hK
        go_simp
        exact hC _ _ (bel_refl _) fun _ _ => rfl
      · refine stepG_plain rfl ?_
        intro a0 w9 K9 hF hB hK hC
        obtain ⟨v110, e110, z110⟩ := dep hK 0 (g := .data) (j := 16) (k := 110) rfl rfl rfl
        have z110 : v110 = .bool false := z110
        subst z110
        clear hF hB hK
        go_simp
        exact hC _ _ (bel_refl _) fun _ _ => rfl
      · intro a0 w9 K9 hF hB hK hC
        obtain ⟨vg, eg, zg⟩ := dep hK 0 (g := .guard) (j := 17) (k := 111) rfl rfl rfl
        have zg : vg = .bool false := zg
        subst zg
        refine guard_in (j := 17) (k := 111) (want := false) rfl rfl eg rfl ?_
        have b9 := hF.base (k := 9) (v := .pointer (some ⟨w3.heap.size, 0, none⟩)) (by kernel_rfl) rfl
        have x90 : w9.cell? ⟨w3.heap.size, 0, none⟩ = some (.bool q3.s) := (VP.out.below hB VP.out.lt).cell 0
        have x91 : w9.cell? ⟨w3.heap.size, 1, none⟩ = some (.slice Ap (limbs q3.n).length cp) := (VP.out.below hB VP.out.lt).cell 1
        have x92 : w9.cell? ⟨w3.heap.size, 2, none⟩ = some (.slice Ar (limbs q3.d).length cr) := (VP.out.below hB VP.out.lt).cell 2
        clear hF hB hK
        go_simp
        exact hC _ _ (bel_refl _) fun _ _ => rfl
      · intro a0 w9 K9 hF hB hK hC
        obtain ⟨vg, eg, zg⟩ := dep hK 0 (g := .guard) (j := 17) (k := 111) rfl rfl rfl
        have zg : vg = .bool false := zg
        subst zg
        refine guard_in (j := 17) (k := 111) (want := false) rfl rfl eg rfl ?_
        have b10 := hF.base (k := 10) (v := .int .i64 c3) (by kernel_rfl) rfl
        clear hF hB hK
        go_simp
        exact hC _ _ (bel_refl _) fun _ _ => rfl
      · intro a0 w9 K9 hF hB hK hC
        obtain ⟨vg, eg, zg⟩ := dep hK 0 (g := .guard) (j := 17) (k := 111) rfl rfl rfl
        have zg : vg = .bool false := zg
        subst zg
        refine guard_in (j := 17) (k := 111) (want := false) rfl rfl eg rfl ?_
        have b14 := hF.base (k := 14) (v := .pointer (some ⟨g14, 0, none⟩)) (by kernel_rfl) rfl
        have x90 : w9.cell? ⟨g14, 0, none⟩ = some (.bool s) := (FX14.out.below hB FX14.out.lt).cell 0
        have x91 : w9.cell? ⟨g14, 1, none⟩ = some (.string (dec n)) := (FX14.out.below hB FX14.out.lt).cell 1
        have x92 : w9.cell? ⟨g14, 2, none⟩ = some (.string (dec d0)) := (FX14.out.below hB FX14.out.lt).cell 2
        have x93 : w9.cell? ⟨g14, 3, none⟩ = some (.bool false) := (FX14.out.below hB FX14.out.lt).cell 3
        clear hF hB hK
        go_simp
        exact hC _ _ (bel_refl _) fun _ _ => rfl
      · intro a0 w9 K9 hF hB hK hC
        obtain ⟨vg, eg, zg⟩ := dep hK 0 (g := .guard) (j := 17) (k := 111) rfl rfl rfl
        have zg : vg = .bool false := zg
        subst zg
        refine guard_in (j := 17) (k := 111) (want := false) rfl rfl eg rfl ?_
        have b15 := hF.base (k := 15) (v := .pointer (some ⟨g15, 0, none⟩)) (by kernel_rfl) rfl
        have x90 : w9.cell? ⟨g15, 0, none⟩ = some (.bool s') := (FX15.out.below hB FX15.out.lt).cell 0
        have x91 : w9.cell? ⟨g15, 1, none⟩ = some (.string (dec m)) := (FX15.out.below hB FX15.out.lt).cell 1
        have x92 : w9.cell? ⟨g15, 2, none⟩ = some (.string (dec f0)) := (FX15.out.below hB FX15.out.lt).cell 2
        have x93 : w9.cell? ⟨g15, 3, none⟩ = some (.bool false) := (FX15.out.below hB FX15.out.lt).cell 3
        clear hF hB hK
        go_simp
        exact hC _ _ (bel_refl _) fun _ _ => rfl
      · intro a0 w9 K9 hF hB hK hC
        obtain ⟨vg, eg, zg⟩ := dep hK 3 (g := .guard) (j := 17) (k := 111) rfl rfl rfl
        have zg : vg = .bool false := zg
        subst zg
        refine guard_in (j := 17) (k := 111) (want := false) rfl rfl eg rfl ?_
        obtain ⟨v114, e114, z114⟩ := dep hK 0 (g := .data) (j := 20) (k := 114) rfl rfl rfl
        have z114 : v114 = .agg #[.bool s, .string (dec n), .string (dec d0), .bool false] := z114
        subst z114
        obtain ⟨v115, e115, z115⟩ := dep hK 1 (g := .data) (j := 21) (k := 115) rfl rfl rfl
        have z115 : v115 = .agg #[.bool s', .string (dec m), .string (dec f0), .bool false] := z115
        subst z115
        have HB9 := Lib.hid hB
        clear hF hB hK
        go_simp
        refine (ref_mul (q := f3) (k := ov3) ⟨s, n, d0⟩ ⟨s', m, f0⟩ _ DL.out.1 DL.out.2.1 DL.out.2.2.1 DL.out.2.2.2 E3.out.1 E3.out.2).mono ?_
        rintro e w7 ⟨rfl, hbl⟩
        exact hC _ _ hbl fun _ _ => rfl
      · intro a0 w9 K9 hF hB hK hC
        obtain ⟨vg, eg, zg⟩ := dep hK 4 (g := .guard) (j := 17) (k := 111) rfl rfl rfl
        have zg : vg = .bool false := zg
        subst zg
        refine guard_in (j := 17) (k := 111) (want := false) rfl rfl eg rfl ?_
        obtain ⟨v112, e112, z112⟩ := dep hK 0 (g := .data) (j := 18) (k := 112) rfl rfl rfl
        have z112 : v112 = .agg #[.bool q3.s, .slice Ap (limbs q3.n).length cp, .slice Ar (limbs q3.d).length cr] := z112
        subst z112
        obtain ⟨v113, e113, z113⟩ := dep hK 1 (g := .data) (j := 19) (k := 113) rfl rfl rfl
        have z113 : v113 = .int .i64 c3 := z113
        subst z113
        obtain ⟨v116, e116, z116⟩ := dep hK 2 (g := .data) (j := 22) (k := 116) rfl rfl rfl
        have z116 : v116 = .agg #[.bool f3.s, .string (dec f3.n), .string (dec f3.d), .bool ov3] := z116
        subst z116
        have HB9 := Lib.hid hB
        clear hF hB hK
        go_simp
        refine (isQ_ans A3.out Ap Ar cp cr _ (Rp.out.below HB9.out) (Rr.out.below HB9.out)).mono ?_
        rintro e w7 ⟨rfl, hbl⟩
        exact hC _ _ hbl fun _ _ => rfl
      · intro a0 w9 K9 hF hB hK hC
        obtain ⟨vg, eg, zg⟩ := dep hK 1 (g := .guard) (j := 17) (k := 111) rfl rfl rfl
        have zg : vg = .bool false := zg
        subst zg
        refine guard_in (j := 17) (k := 111) (want := false) rfl rfl eg rfl ?_
        obtain ⟨v117, e117, z117⟩ := dep hK 0 (g := .data) (j := 23) (k := 117) rfl rfl rfl
        have z117 : v117 = .bool true := z117
        subst z117
        have HB9 := Lib.hid hB
        clear hF hB hK
        go_simp
        exact hC _ _ (bel_refl _) fun _ _ => rfl
      · refine stepG_plain rfl ?_
        intro a0 w9 K9 hF hB hK hC
        obtain ⟨v111, e111, z111⟩ := dep hK 0 (g := .data) (j := 17) (k := 111) rfl rfl rfl
        have z111 : v111 = .bool false := z111
        subst z111
        obtain ⟨v118, e118, z118⟩ := dep hK 1 (g := .data) (j := 24) (k := 118) rfl rfl rfl
        have z118 : v118 = .bool false := z118
        subst z118
        have HB9 := Lib.hid hB
        clear hF hB hK
        go_simp
        exact hC _ _ (bel_refl _) fun _ _ => rfl
      · refine stepG_plain rfl ?_
        intro a0 w9 K9 hF hB hK hC
        obtain ⟨v119, e119, z119⟩ := dep hK 0 (g := .data) (j := 25) (k := 119) rfl rfl rfl
        have z119 : v119 = .bool false := z119
        subst z119
        clear hF hB hK
        go_simp
        exact hC _ _ (bel_refl _) fun _ _ => rfl
      · intro a0 w9 K9 hF hB hK hC
        obtain ⟨vg, eg, zg⟩ := dep hK 1 (g := .guard) (j := 26) (k := 120) rfl rfl rfl
        have zg : vg = .bool false := zg
        subst zg
        refine guard_in (j := 26) (k := 120) (want := false) rfl rfl eg rfl ?_
        have HB9 := Lib.hid hB
        clear hF hB hK
        go_simp
        refine (aliveQ _).mono ?_
        rintro e w7 ⟨rfl, hbl⟩
        exact hC _ _ hbl fun _ _ => rfl
      · intro a0 w9 K9 hF hB hK hC
        obtain ⟨vg, eg, zg⟩ := dep hK 1 (g := .guard) (j := 26) (k := 120) rfl rfl rfl
        have zg : vg = .bool false := zg
        subst zg
        refine guard_in (j := 26) (k := 120) (want := false) rfl rfl eg rfl ?_
        obtain ⟨v121, e121, z121⟩ := dep hK 0 (g := .data) (j := 27) (k := 121) rfl rfl rfl
        have z121 : v121 = .bool true := z121
        subst z121
        have HB9 := Lib.hid hB
        clear hF hB hK
        go_simp
        exact hC _ _ (bel_refl _) fun _ _ => rfl
      · refine stepG_plain rfl ?_
        intro a0 w9 K9 hF hB hK hC
        obtain ⟨v120, e120, z120⟩ := dep hK 0 (g := .data) (j := 26) (k := 120) rfl rfl rfl
        have z120 : v120 = .bool false := z120
        subst z120
        obtain ⟨v122, e122, z122⟩ := dep hK 1 (g := .data) (j := 28) (k := 122) rfl rfl rfl
        have z122 : v122 = .bool false := z122
        subst z122
        have HB9 := Lib.hid hB
        clear hF hB hK
        go_simp
        exact hC _ _ (bel_refl _) fun _ _ => rfl
      case fin =>
        intro a0 w9 hF hB hK
        have b6 := hF.base (k := 6) (v := .int .i64 c1) (by kernel_rfl) rfl
        have b8 := hF.base (k := 8) (v := .int .i64 c2) (by kernel_rfl) rfl
        have b10 := hF.base (k := 10) (v := .int .i64 c3) (by kernel_rfl) rfl
        have b12 := hF.base (k := 12) (v := .int .i64 c4) (by kernel_rfl) rfl
        have b5 := hF.base (k := 5) (v := .pointer (some ⟨w1.heap.size, 0, none⟩)) (by kernel_rfl) rfl
        have b7 := hF.base (k := 7) (v := .pointer (some ⟨w2.heap.size, 0, none⟩)) (by kernel_rfl) rfl
        have b9 := hF.base (k := 9) (v := .pointer (some ⟨w3.heap.size, 0, none⟩)) (by kernel_rfl) rfl
        have b11 := hF.base (k := 11) (v := .pointer (some ⟨w4.heap.size, 0, none⟩)) (by kernel_rfl) rfl
        have b13 := hF.base (k := 13) (v := .pointer (some ⟨w4.heap.size + 1, 0, none⟩)) (by kernel_rfl) rfl
        have b14 := hF.base (k := 14) (v := .pointer (some ⟨g14, 0, none⟩)) (by kernel_rfl) rfl
        have b15 := hF.base (k := 15) (v := .pointer (some ⟨g15, 0, none⟩)) (by kernel_rfl) rfl
        have hsz := hF.size
        have hdf := hF.defers
        clear hF
        obtain ⟨v123, e123, z123⟩ := known hK 29 (k := 123) (by decide) rfl
        have z123 : v123 = .bool false := z123
        subst z123
        clear hK
        obtain ⟨⟨l0⟩, df⟩ := a0
        have hs0 : l0.length = 140 := hsz
        clear hsz
        replace hdf : df = _ := hdf
        subst hdf
        obtain ⟨u, rfl⟩ := lits_140 hs0
        clear hs0
        have q6 : u 6 = _ := Option.some.inj b6
        clear b6
        have q8 : u 8 = _ := Option.some.inj b8
        clear b8
        have q10 : u 10 = _ := Option.some.inj b10
        clear b10
        have q12 : u 12 = _ := Option.some.inj b12
        clear b12
        have q5 : u 5 = _ := Option.some.inj b5
        clear b5
        have q7 : u 7 = _ := Option.some.inj b7
        clear b7
        have q9 : u 9 = _ := Option.some.inj b9
        clear b9
        have q11 : u 11 = _ := Option.some.inj b11
        clear b11
        have q13 : u 13 = _ := Option.some.inj b13
        clear b13
        have q14 : u 14 = _ := Option.some.inj b14
        clear b14
        have q15 : u 15 = _ := Option.some.inj b15
        clear b15
        have q123 : u 123 = _ := Option.some.inj e123
        clear e123
        rw [q6, q8, q10, q12, q5, q7, q9, q11, q13, q14, q15, q123]
        clear q6 q8 q10 q12 q5 q7 q9 q11 q13 q14 q15 q123
        have hbl := hB; clear hB
        replace R1 := Lib.hid (R1.out.below hbl)
        replace R2 := Lib.hid (R2.out.below hbl)
        replace R3 := Lib.hid (R3.out.below hbl)
        replace R4 := Lib.hid (R4.out.below hbl)
        replace Rs := Lib.hid (Rs.out.below hbl)
        replace HNs := Lib.hid (HNs.out.below hbl)
        replace Rt := Lib.hid (Rt.out.below hbl)
        replace HNt := Lib.hid (HNt.out.below hbl)
        replace Ru := Lib.hid (Ru.out.below hbl)
        replace HNu := Lib.hid (HNu.out.below hbl)
        replace Rv := Lib.hid (Rv.out.below hbl)
        replace HNv := Lib.hid (HNv.out.below hbl)
        replace Rp := Lib.hid (Rp.out.below hbl)
        replace HNp := Lib.hid (HNp.out.below hbl)
        replace Rr := Lib.hid (Rr.out.below hbl)
        replace HNr := Lib.hid (HNr.out.below hbl)
        replace Rx := Lib.hid (Rx.out.below hbl)
        replace HNx := Lib.hid (HNx.out.below hbl)
        replace Ry := Lib.hid (Ry.out.below hbl)
        replace HNy := Lib.hid (HNy.out.below hbl)
        replace CX := Lib.hid (CX.out.below hbl CX.out.lt)
        replace CY := Lib.hid (CY.out.below hbl CY.out.lt)
        replace VS := Lib.hid (VS.out.below hbl VS.out.lt)
        replace VD := Lib.hid (VD.out.below hbl VD.out.lt)
        replace VP := Lib.hid (VP.out.below hbl VP.out.lt)
        replace VQ := Lib.hid (VQ.out.below hbl VQ.out.lt)
        replace VN := Lib.hid (VN.out.below hbl VN.out.lt)
        replace FX14 := Lib.hid (FX14.out.below hbl FX14.out.lt)
        replace FX15 := Lib.hid (FX15.out.below hbl FX15.out.lt)
        replace HW := Lib.hid (bel_trans HW.out hbl); clear hbl
        refine wpList_nil ?_
        have y1 : w9.cell? ⟨g15, 1, none⟩ = some (.string (dec m)) := FX15.out.cell 1
        go_wp2_with fail
        clear y1
        refine wp_region_typed 7 (TOf [VIs (.agg #[.bool q4.s, .slice Ax (limbs q4.n).length cx, .slice Ay (limbs q4.d).length cy]),
            VIs (.int .i64 c4),
            VIs (.agg #[.bool s, .string (dec n), .string (dec d0), .bool false]),
            VIs (.agg #[.bool s', .string (dec m), .string (dec f0), .bool false]),
            VIs (.agg #[.bool f4.s, .string (dec f4.n), .string (dec f4.d), .bool ov4]),
            VIs (.bool true),
            VIs (.bool true)]) (by kernel_rfl) (by kernel_rfl) (by kernel_rfl) (LiftAll.at_ (.cons (VIs.lift _) (.cons (VIs.lift _) (.cons (VIs.lift _) (.cons (VIs.lift _) (.cons (VIs.lift _) (.cons (VIs.lift _) (.cons (VIs.lift _) .nil)))))))) (steps_all (steps_cons ?_ (steps_cons ?_ (steps_cons ?_ (steps_cons ?_ (steps_cons ?_ (steps_cons ?_ (steps_cons ?_ steps_zero)))))))) ?fin
        · intro a0 w9 K9 hF hB hK hC
          have b11 := hF.base (k := 11) (v := .pointer (some ⟨w4.heap.size, 0, none⟩)) (by kernel_rfl) rfl
          have x90 : w9.cell? ⟨w4.heap.size, 0, none⟩ = some (.bool q4.s) := (VQ.out.below hB VQ.out.lt).cell 0
          have x91 : w9.cell? ⟨w4.heap.size, 1, none⟩ = some (.slice Ax (limbs q4.n).length cx) := (VQ.out.below hB VQ.out.lt).cell 1
          have x92 : w9.cell? ⟨w4.heap.size, 2, none⟩ = some (.slice Ay (limbs q4.d).length cy) := (VQ.out.below hB VQ.out.lt).cell 2
          clear hF hB hK
          go_simp
          exact hC _ _ (bel_refl _) fun _ _ => rfl
        · intro a0 w9 K9 hF hB hK hC
          have b12 := hF.base (k := 12) (v := .int .i64 c4) (by kernel_rfl) rfl
          clear hF hB hK
          go_simp
          exact hC _ _ (bel_refl _) fun _ _ => rfl
        · intro a0 w9 K9 hF hB hK hC
          have b14 := hF.base (k := 14) (v := .pointer (some ⟨g14, 0, none⟩)) (by kernel_rfl) rfl
          have x90 : w9.cell? ⟨g14, 0, none⟩ = some (.bool s) := (FX14.out.below hB FX14.out.lt).cell 0
          have x91 : w9.cell? ⟨g14, 1, none⟩ = some (.string (dec n)) := (FX14.out.below hB FX14.out.lt).cell 1
          have x92 : w9.cell? ⟨g14, 2, none⟩ = some (.string (dec d0)) := (FX14.out.below hB FX14.out.lt).cell 2
          have x93 : w9.cell? ⟨g14, 3, none⟩ = some (.bool false) := (FX14.out.below hB FX14.out.lt).cell 3
          clear hF hB hK
          go_simp
          exact hC _ _ (bel_refl _) fun _ _ => rfl
        · intro a0 w9 K9 hF hB hK hC
          have b15 := hF.base (k := 15) (v := .pointer (some ⟨g15, 0, none⟩)) (by kernel_rfl) rfl
          have x90 : w9.cell? ⟨g15, 0, none⟩ = some (.bool s') := (FX15.out.below hB FX15.out.lt).cell 0
          have x91 : w9.cell? ⟨g15, 1, none⟩ = some (.string (dec m)) := (FX15.out.below hB FX15.out.lt).cell 1
          have x92 : w9.cell? ⟨g15, 2, none⟩ = some (.string (dec f0)) := (FX15.out.below hB FX15.out.lt).cell 2
          have x93 : w9.cell? ⟨g15, 3, none⟩ = some (.bool false) := (FX15.out.below hB FX15.out.lt).cell 3
          clear hF hB hK
          go_simp
          exact hC _ _ (bel_refl _) fun _ _ => rfl
        · intro a0 w9 K9 hF hB hK hC
          obtain ⟨v136, e136, z136⟩ := dep hK 0 (g := .data) (j := 2) (k := 136) rfl rfl rfl
          have z136 : v136 = .agg #[.bool s, .string (dec n), .string (dec d0), .bool false] := z136
          subst z136
          obtain ⟨v137, e137, z137⟩ := dep hK 1 (g := .data) (j := 3) (k := 137) rfl rfl rfl
          have z137 : v137 = .agg #[.bool s', .string (dec m), .string (dec f0), .bool false] := z137
          subst z137
          have HB9 := Lib.hid hB
          clear hF hB hK
          go_simp
          refine (ref_quo (q := f4) (k := ov4) ⟨s, n, d0⟩ ⟨s', m, f0⟩ _ DL.out.1 DL.out.2.1 DL.out.2.2.1 DL.out.2.2.2 E4.out.1 E4.out.2).mono ?_
          rintro e w7 ⟨rfl, hbl⟩
          exact hC _ _ hbl fun _ _ => rfl
        · intro a0 w9 K9 hF hB hK hC
          obtain ⟨v134, e134, z134⟩ := dep hK 0 (g := .data) (j := 0) (k := 134) rfl rfl rfl
          have z134 : v134 = .agg #[.bool q4.s, .slice Ax (limbs q4.n).length cx, .slice Ay (limbs q4.d).length cy] := z134
          subst z134
          obtain ⟨v135, e135, z135⟩ := dep hK 1 (g := .data) (j := 1) (k := 135) rfl rfl rfl
          have z135 : v135 = .int .i64 c4 := z135
          subst z135
          obtain ⟨v138, e138, z138⟩ := dep hK 2 (g := .data) (j := 4) (k := 138) rfl rfl rfl
          have z138 : v138 = .agg #[.bool f4.s, .string (dec f4.n), .string (dec f4.d), .bool ov4] := z138
          subst z138
          have HB9 := Lib.hid hB
          clear hF hB hK
          go_simp
          refine (isQ_ans A4.out Ax Ay cx cy _ (Rx.out.below HB9.out) (Ry.out.below HB9.out)).mono ?_
          rintro e w7 ⟨rfl, hbl⟩
          exact hC _ _ hbl fun _ _ => rfl
        · intro a0 w9 K9 hF hB hK hC
          obtain ⟨v139, e139, z139⟩ := dep hK 0 (g := .data) (j := 5) (k := 139) rfl rfl rfl
          have z139 : v139 = .bool true := z139
          subst z139
          clear hF hB hK
          go_simp
          exact hC _ _ (bel_refl _) fun _ _ => rfl
        case fin =>
          intro a0 w9 hF hB hK
          have b11 := hF.base (k := 11) (v := .pointer (some ⟨w4.heap.size, 0, none⟩)) (by kernel_rfl) rfl
          have b12 := hF.base (k := 12) (v := .int .i64 c4) (by kernel_rfl) rfl
          have b14 := hF.base (k := 14) (v := .pointer (some ⟨g14, 0, none⟩)) (by kernel_rfl) rfl
          have b15 := hF.base (k := 15) (v := .pointer (some ⟨g15, 0, none⟩)) (by kernel_rfl) rfl
          have hsz := hF.size
          have hdf := hF.defers
          clear hF
          obtain ⟨v4, e4, z4⟩ := known hK 6 (k := 4) (by decide) rfl
          have z4 : v4 = .bool true := z4
          subst z4
          clear hK
          obtain ⟨⟨l0⟩, df⟩ := a0
          have hs0 : l0.length = 140 := hsz
          clear hsz
          replace hdf : df = _ := hdf
          subst hdf
          obtain ⟨u, rfl⟩ := lits_140 hs0
          clear hs0
          have q11 : u 11 = _ := Option.some.inj b11
          clear b11
          have q12 : u 12 = _ := Option.some.inj b12
          clear b12
          have q14 : u 14 = _ := Option.some.inj b14
          clear b14
          have q15 : u 15 = _ := Option.some.inj b15
          clear b15
          have q4 : u 4 = _ := Option.some.inj e4
          clear e4
          rw [q11, q12, q14, q15, q4]
          clear q11 q12 q14 q15 q4
          have hbl := hB; clear hB
          replace R1 := Lib.hid (R1.out.below hbl)
          replace R2 := Lib.hid (R2.out.below hbl)
          replace R3 := Lib.hid (R3.out.below hbl)
          replace R4 := Lib.hid (R4.out.below hbl)
          replace Rs := Lib.hid (Rs.out.below hbl)
          replace HNs := Lib.hid (HNs.out.below hbl)
          replace Rt := Lib.hid (Rt.out.below hbl)
          replace HNt := Lib.hid (HNt.out.below hbl)
          replace Ru := Lib.hid (Ru.out.below hbl)
          replace HNu := Lib.hid (HNu.out.below hbl)
          replace Rv := Lib.hid (Rv.out.below hbl)
          replace HNv := Lib.hid (HNv.out.below hbl)
          replace Rp := Lib.hid (Rp.out.below hbl)
          replace HNp := Lib.hid (HNp.out.below hbl)
          replace Rr := Lib.hid (Rr.out.below hbl)
          replace HNr := Lib.hid (HNr.out.below hbl)
          replace Rx := Lib.hid (Rx.out.below hbl)
          replace HNx := Lib.hid (HNx.out.below hbl)
          replace Ry := Lib.hid (Ry.out.below hbl)
          replace HNy := Lib.hid (HNy.out.below hbl)
          replace CX := Lib.hid (CX.out.below hbl CX.out.lt)
          replace CY := Lib.hid (CY.out.below hbl CY.out.lt)
          replace VS := Lib.hid (VS.out.below hbl VS.out.lt)
          replace VD := Lib.hid (VD.out.below hbl VD.out.lt)
          replace VP := Lib.hid (VP.out.below hbl VP.out.lt)
          replace VQ := Lib.hid (VQ.out.below hbl VQ.out.lt)
          replace VN := Lib.hid (VN.out.below hbl VN.out.lt)
          replace FX14 := Lib.hid (FX14.out.below hbl FX14.out.lt)
          replace FX15 := Lib.hid (FX15.out.below hbl FX15.out.lt)
          replace HW := Lib.hid (bel_trans HW.out hbl); clear hbl
          refine wpList_nil ?_
          go_wp2
          go_ret
          exact ⟨rfl, HW.out⟩
end
section
open Go.RowKit

theorem law_reckons (s s' : Bool) (A B A' B' : Option Addr) (c d c' d' : Nat) (x0 y0 x0' y0' : List Nat) (w : World) (h1 : RdL w A x0) (h2 : RdL w B y0) (h3 : RdL w A' x0') (h4 : RdL w B' y0') (k1 : x0.length ≤ c) (k2 : y0.length ≤ d) (k3 : x0'.length ≤ c') (k4 : y0'.length ≤ d') (m1 : Lim x0) (m2 : Lim y0) (m3 : Lim x0') (m4 : Lim y0') :
    Calls Try.prog 5 #[.agg #[.bool s, .slice A x0.length c, .slice B y0.length d], .agg #[.bool s', .slice A' x0'.length c', .slice B' y0'.length d']] w (RetT w) := by
  cases hr : rightB s (few x0) (few y0)
  · exact reckons_wa s s' A B A' B' c d c' d' x0 y0 x0' y0' (few x0) (few y0) (few x0') (few y0') w h1 h2 h3 h4 k1 k2 k3 k4 m1 m2 m3 m4 hr rfl rfl rfl rfl
  · cases hrb : rightB s' (few x0') (few y0')
    · exact reckons_wb s s' A B A' B' c d c' d' x0 y0 x0' y0' (few x0) (few y0) (few x0') (few y0') w h1 h2 h3 h4 k1 k2 k3 k4 m1 m2 m3 m4 hr hrb rfl rfl rfl rfl
    · obtain ⟨q, hs, hx, hy, hn, hd, hq⟩ := rightB_num (few_lim m1) (few_lim m2) hr
      obtain ⟨s0, n, d0⟩ := q
      obtain rfl : s0 = s := hs
      obtain ⟨p, hs', hx', hy', hm, hf, hp⟩ := rightB_num (few_lim m3) (few_lim m4) hrb
      obtain ⟨s1, m, f0⟩ := p
      obtain rfl : s1 = s' := hs'
      by_cases hm0 : m = 0
      · exact reckons_z s0 s1 A B A' B' c d c' d' x0 y0 x0' y0' n d0 m f0 w h1 h2 h3 h4 k1 k2 k3 k4 m1 m2 m3 m4 hn hd hq hm hf hp hm0 hx hy hx' hy'
      · exact reckons_p s0 s1 A B A' B' c d c' d' x0 y0 x0' y0' n d0 m f0 w h1 h2 h3 h4 k1 k2 k3 k4 m1 m2 m3 m4 hn hd hq hm hf hp hm0 hx hy hx' hy'
end
end Go.Proofs.Ytmbbdjpnecjleaa
