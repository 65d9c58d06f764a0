/-
  The law RatOrders, walked: where nothing is too great.
  The law RatOrders, whole.
-/
import Derived.Test.YtmbbdjpnecjleaaLawOrdA
namespace Go.Proofs.Ytmbbdjpnecjleaa
section
open Go.RowKit

set_option maxRecDepth 100000 in
set_option maxHeartbeats 1000000 in
theorem orders_tt (s s' : Bool) (A B A' B' : Option Addr) (c d c' d' : Nat) (x0 y0 x0' y0' : List Nat) (n d0 : Nat) (m f0 : Nat) (w : World) (h1 : RdL w A x0) (h2 : RdL w B y0) (h3 : RdL w A' x0') (h4 : RdL w B' y0') (k1 : x0.length ≤ c) (k2 : y0.length ≤ d) (k3 : x0'.length ≤ c') (k4 : y0'.length ≤ d') (m1 : Lim x0) (m2 : Lim y0) (m3 : Lim x0') (m4 : Lim y0') (hs1 : s = true) (hs2 : s' = true) (hn : n < Top) (hd : d0 < Top) (hq : QR ⟨s, n, d0⟩) (hm : m < Top) (hf : f0 < Top) (hp : QR ⟨s', m, f0⟩) (ho : n * f0 < Top) (ho2 : m * d0 < Top) (e1 : few x0 = (limbs n)) (e2 : few y0 = (limbs d0)) (e3 : few x0' = (limbs m)) (e4 : few y0' = (limbs f0)) :
    Calls Try.prog 6 #[.agg #[.bool s, .slice A x0.length c, .slice B y0.length d], .agg #[.bool s', .slice A' x0'.length c', .slice B' y0'.length d']] w (RetT w) := by
  subst hs1 hs2
  have HR := Lib.hid ((rightB_q (s := true) hn hd).2 hq)
  have HQ := Lib.hid (And.intro hn (And.intro hd hq)); clear hn hd hq
  have HRB := Lib.hid ((rightB_q (s := true) hm hf).2 hp)
  have HP := Lib.hid (And.intro hm (And.intro hf hp)); clear hm hf hp
  obtain ⟨t, ht⟩ : ∃ t, redQ true (n / d0) 1 = t := ⟨_, rfl⟩
  have HT := Lib.hid ht; clear ht
  have HTF := Lib.hid (redQ_fit (lt_top (Nat.div_le_self n d0) HQ.out.1) (small_top (by decide)) (by decide) HT.out)
  obtain ⟨x, hx⟩ : ∃ x, n * f0 = x := ⟨_, rfl⟩
  obtain ⟨y, hy⟩ : ∃ y, m * d0 = y := ⟨_, rfl⟩
  rw [hx] at ho
  rw [hy] at ho2
  have HXY := Lib.hid (And.intro hx hy); clear hx hy
  have HO := Lib.hid (show decide (Top ≤ x) = false by exact decide_eq_false (by omega))
  have HO2 := Lib.hid (show decide (Top ≤ y) = false by exact decide_eq_false (by omega))
  have HF := Lib.hid ho; clear ho
  have HF2 := Lib.hid ho2; clear ho2
  have e0 := wrap_negI x y
  have R1 := Lib.hid (show RdL w A (limbs n) by rw [← e1]; exact h1.take 18); clear h1
  have R2 := Lib.hid (show RdL w B (limbs d0) by rw [← e2]; exact h2.take 18); clear h2
  have R3 := Lib.hid (show RdL w A' (limbs m) by rw [← e3]; exact h3.take 18); clear h3
  have R4 := Lib.hid (show RdL w B' (limbs f0) by rw [← e4]; exact h4.take 18); clear h4
  have L18 := Lib.hid (show (limbs n).length ≤ 18 ∧ (limbs d0).length ≤ 18 ∧ (limbs m).length ≤ 18 ∧ (limbs f0).length ≤ 18 by rw [← e1, ← e2, ← e3, ← e4]; exact ⟨few_le _, few_le _, few_le _, few_le _⟩)
  have KC := Lib.hid (show (limbs n).length ≤ c ∧ (limbs d0).length ≤ d ∧ (limbs m).length ≤ c' ∧ (limbs f0).length ≤ d' by rw [← e1, ← e2, ← e3, ← e4]; exact ⟨Nat.le_trans (few_short _) k1, Nat.le_trans (few_short _) k2, Nat.le_trans (few_short _) k3, Nat.le_trans (few_short _) k4⟩)
  have M := Lib.hid (show Lim (limbs n) ∧ Lim (limbs d0) ∧ Lim (limbs m) ∧ Lim (limbs f0) by rw [← e1, ← e2, ← e3, ← e4]; exact ⟨few_lim m1, few_lim m2, few_lim m3, few_lim m4⟩); clear m1 m2 m3 m4
  have F := Lib.hid (And.intro (And.intro k1 (And.intro k2 (And.intro e1 e2))) (And.intro k3 (And.intro k4 (And.intro e3 e4)))); clear k1 k2 k3 k4 e1 e2 e3 e4
  obtain ⟨wa, hwa⟩ : ∃ wa, wa = (w.alloc (.cells #[.bool true, .slice A x0.length c, .slice B y0.length d] 25)).alloc (.cells #[.bool true, .slice A' x0'.length c', .slice B' y0'.length d'] 25) := ⟨_, rfl⟩
  have hbl : Below w.heap.size w wa := by rw [hwa]; exact bel_alloc (bel_alloc (bel_refl _) _) _
  have CX : Blk wa (w.heap.size) 25 #[.bool true, .slice A x0.length c, .slice B y0.length d] := by
    have hz := Blk.new (w) 25 #[.bool true, .slice A x0.length c, .slice B y0.length d]
    rw [hwa]
    exact (hz.alloc _)
  have CY : Blk wa (w.heap.size + 1) 25 #[.bool true, .slice A' x0'.length c', .slice B' y0'.length d'] := by
    have hz := Blk.new (w.alloc (.cells #[.bool true, .slice A x0.length c, .slice B y0.length d] 25)) 25 #[.bool true, .slice A' x0'.length c', .slice B' y0'.length d']
    rw [World.size_alloc] at hz
    rw [hwa]
    exact hz
  replace R1 := Lib.hid (R1.out.below hbl)
  replace R2 := Lib.hid (R2.out.below hbl)
  replace R3 := Lib.hid (R3.out.below hbl)
  replace R4 := Lib.hid (R4.out.below hbl)
  have HW := Lib.hid hbl; clear hbl
  replace CX := Lib.hid CX
  replace CY := Lib.hid CY
  go_enter Try.func6, Try.ntmps6
  go_wp2_with fail
  rw [← hwa]
  clear hwa
  refine wp_region_typed 4 (TOf [VIs (.agg #[.bool true, .slice A x0.length c, .slice B y0.length d]),
      VIs (.agg #[.bool true, .slice A (limbs n).length c, .slice B (limbs d0).length d]),
      VIs (.agg #[.bool true, .slice A' x0'.length c', .slice B' y0'.length d']),
      VIs (.agg #[.bool true, .slice A' (limbs m).length c', .slice B' (limbs f0).length d'])]) (by kernel_rfl) (by kernel_rfl) (by kernel_rfl) (LiftAll.at_ (.cons (VIs.lift _) (.cons (VIs.lift _) (.cons (VIs.lift _) (.cons (VIs.lift _) .nil))))) (steps_all (steps_cons ?_ (steps_cons ?_ (steps_cons ?_ (steps_cons ?_ steps_zero))))) ?fin
  · intro a0 w9 K9 hF hB hK hC
    have b2 := hF.base (k := 2) (v := .pointer (some ⟨w.heap.size, 0, none⟩)) (by kernel_rfl) rfl
    have x90 : w9.cell? ⟨w.heap.size, 0, none⟩ = some (.bool true) := (CX.out.below hB CX.out.lt).cell 0
    have x91 : w9.cell? ⟨w.heap.size, 1, none⟩ = some (.slice A x0.length c) := (CX.out.below hB CX.out.lt).cell 1
    have x92 : w9.cell? ⟨w.heap.size, 2, none⟩ = some (.slice B y0.length d) := (CX.out.below hB CX.out.lt).cell 2
    clear hF hB hK
    go_simp
    exact hC _ _ (bel_refl _) fun _ _ => rfl
  · intro a0 w9 K9 hF hB hK hC
    obtain ⟨v14, e14, z14⟩ := dep hK 0 (g := .data) (j := 0) (k := 14) rfl rfl rfl
    have z14 : v14 = .agg #[.bool true, .slice A x0.length c, .slice B y0.length d] := z14
    subst z14
    have HB9 := Lib.hid hB
    clear hF hB hK
    go_simp
    refine (fewQ_is true A B c d x0 y0 (limbs n) (limbs d0) _ F.out.1.1 F.out.1.2.1 F.out.1.2.2.1 F.out.1.2.2.2).mono ?_
    rintro e w7 ⟨rfl, hbl⟩
    exact hC _ _ hbl fun _ _ => rfl
  · intro a0 w9 K9 hF hB hK hC
    have b3 := hF.base (k := 3) (v := .pointer (some ⟨w.heap.size + 1, 0, none⟩)) (by kernel_rfl) rfl
    have x90 : w9.cell? ⟨w.heap.size + 1, 0, none⟩ = some (.bool true) := (CY.out.below hB CY.out.lt).cell 0
    have x91 : w9.cell? ⟨w.heap.size + 1, 1, none⟩ = some (.slice A' x0'.length c') := (CY.out.below hB CY.out.lt).cell 1
    have x92 : w9.cell? ⟨w.heap.size + 1, 2, none⟩ = some (.slice B' y0'.length d') := (CY.out.below hB CY.out.lt).cell 2
    clear hF hB hK
    go_simp
    exact hC _ _ (bel_refl _) fun _ _ => rfl
  · intro a0 w9 K9 hF hB hK hC
    obtain ⟨v16, e16, z16⟩ := dep hK 0 (g := .data) (j := 2) (k := 16) rfl rfl rfl
    have z16 : v16 = .agg #[.bool true, .slice A' x0'.length c', .slice B' y0'.length d'] := z16
    subst z16
    have HB9 := Lib.hid hB
    clear hF hB hK
    go_simp
    refine (fewQ_is true A' B' c' d' x0' y0' (limbs m) (limbs f0) _ F.out.2.1 F.out.2.2.1 F.out.2.2.2.1 F.out.2.2.2.2).mono ?_
    rintro e w7 ⟨rfl, hbl⟩
    exact hC _ _ hbl fun _ _ => rfl
  case fin =>
    intro a0 w9 hF hB hK
    have b2 := hF.base (k := 2) (v := .pointer (some ⟨w.heap.size, 0, none⟩)) (by kernel_rfl) rfl
    have b3 := hF.base (k := 3) (v := .pointer (some ⟨w.heap.size + 1, 0, none⟩)) (by kernel_rfl) rfl
    have hsz := hF.size
    have hdf := hF.defers
    clear hF
    obtain ⟨v15, e15, z15⟩ := known hK 1 (k := 15) (by decide) rfl
    have z15 : v15 = .agg #[.bool true, .slice A (limbs n).length c, .slice B (limbs d0).length d] := z15
    subst z15
    obtain ⟨v17, e17, z17⟩ := known hK 3 (k := 17) (by decide) rfl
    have z17 : v17 = .agg #[.bool true, .slice A' (limbs m).length c', .slice B' (limbs f0).length d'] := z17
    subst z17
    clear hK
    obtain ⟨⟨l0⟩, df⟩ := a0
    have hs0 : l0.length = 131 := hsz
    clear hsz
    replace hdf : df = _ := hdf
    subst hdf
    obtain ⟨u, rfl⟩ := lits_131 hs0
    clear hs0
    have q2 : u 2 = _ := Option.some.inj b2
    clear b2
    have q3 : u 3 = _ := Option.some.inj b3
    clear b3
    have q15 : u 15 = _ := Option.some.inj e15
    clear e15
    have q17 : u 17 = _ := Option.some.inj e17
    clear e17
    rw [q2, q3, q15, q17]
    clear q2 q3 q15 q17
    have hbl := hB; clear hB
    replace R1 := Lib.hid (R1.out.below hbl)
    replace R2 := Lib.hid (R2.out.below hbl)
    replace R3 := Lib.hid (R3.out.below hbl)
    replace R4 := Lib.hid (R4.out.below hbl)
    replace CX := Lib.hid (CX.out.below hbl CX.out.lt)
    replace CY := Lib.hid (CY.out.below hbl CY.out.lt)
    replace HW := Lib.hid (bel_trans HW.out hbl); clear hbl
    simp only [List.drop_succ_cons, List.drop_zero]
    have pd0 := CX.out.cell 0
    have pf0 := CX.out.frozen 0
    have pd1 := CX.out.cell 1
    have pf1 := CX.out.frozen 1
    have pd2 := CX.out.cell 2
    have pf2 := CX.out.frozen 2
    have qd0 := CY.out.cell 0
    have qf0 := CY.out.frozen 0
    have qd1 := CY.out.cell 1
    have qf1 := CY.out.frozen 1
    have qd2 := CY.out.cell 2
    have qf2 := CY.out.frozen 2
    go_upto_region 2 with fail
    clear pd0 pf0 pd1 pf1 pd2 pf2 qd0 qf0 qd1 qf1 qd2 qf2
    obtain ⟨wf, hwf⟩ : ∃ wf, wf = ((((((w9.setCell ⟨w.heap.size, 0, none⟩ (.bool true)).setCell ⟨w.heap.size, 1, none⟩ (.slice A (limbs n).length c)).setCell ⟨w.heap.size, 2, none⟩ (.slice B (limbs d0).length d)).setCell ⟨w.heap.size + 1, 0, none⟩ (.bool true)).setCell ⟨w.heap.size + 1, 1, none⟩ (.slice A' (limbs m).length c')).setCell ⟨w.heap.size + 1, 2, none⟩ (.slice B' (limbs f0).length d')) := ⟨_, rfl⟩
    rw [← hwf]
    replace R1 := Lib.hid (show RdL wf _ _ by rw [hwf]; exact RdL.set3 ((((CY.out).far (p := ⟨w.heap.size, 0, none⟩) (by simp) _).far (p := ⟨w.heap.size, 1, none⟩) (by simp) _).far (p := ⟨w.heap.size, 2, none⟩) (by simp) _) (RdL.set3 (CX.out) (R1.out) _ _ _) _ _ _)
    replace R2 := Lib.hid (show RdL wf _ _ by rw [hwf]; exact RdL.set3 ((((CY.out).far (p := ⟨w.heap.size, 0, none⟩) (by simp) _).far (p := ⟨w.heap.size, 1, none⟩) (by simp) _).far (p := ⟨w.heap.size, 2, none⟩) (by simp) _) (RdL.set3 (CX.out) (R2.out) _ _ _) _ _ _)
    replace R3 := Lib.hid (show RdL wf _ _ by rw [hwf]; exact RdL.set3 ((((CY.out).far (p := ⟨w.heap.size, 0, none⟩) (by simp) _).far (p := ⟨w.heap.size, 1, none⟩) (by simp) _).far (p := ⟨w.heap.size, 2, none⟩) (by simp) _) (RdL.set3 (CX.out) (R3.out) _ _ _) _ _ _)
    replace R4 := Lib.hid (show RdL wf _ _ by rw [hwf]; exact RdL.set3 ((((CY.out).far (p := ⟨w.heap.size, 0, none⟩) (by simp) _).far (p := ⟨w.heap.size, 1, none⟩) (by simp) _).far (p := ⟨w.heap.size, 2, none⟩) (by simp) _) (RdL.set3 (CX.out) (R4.out) _ _ _) _ _ _)
    have CX_ := Lib.hid (show Blk wf (w.heap.size) 25 #[.bool true, .slice A (limbs n).length c, .slice B (limbs d0).length d] by rw [hwf]; exact ((((((CX.out).put 0 (.bool true)).put 1 (.slice A (limbs n).length c)).put 2 (.slice B (limbs d0).length d)).far (p := ⟨w.heap.size + 1, 0, none⟩) (by simp) _).far (p := ⟨w.heap.size + 1, 1, none⟩) (by simp) _).far (p := ⟨w.heap.size + 1, 2, none⟩) (by simp) _)
    have CY_ := Lib.hid (show Blk wf (w.heap.size + 1) 25 #[.bool true, .slice A' (limbs m).length c', .slice B' (limbs f0).length d'] by rw [hwf]; exact ((((((CY.out).far (p := ⟨w.heap.size, 0, none⟩) (by simp) _).far (p := ⟨w.heap.size, 1, none⟩) (by simp) _).far (p := ⟨w.heap.size, 2, none⟩) (by simp) _).put 0 (.bool true)).put 1 (.slice A' (limbs m).length c')).put 2 (.slice B' (limbs f0).length d'))
    replace CX := CX_; clear CX_
    replace CY := CY_; clear CY_
    replace HW := Lib.hid (show Below w.heap.size w wf by rw [hwf]; exact bel_set (p := ⟨w.heap.size + 1, 2, none⟩) (bel_set (p := ⟨w.heap.size + 1, 1, none⟩) (bel_set (p := ⟨w.heap.size + 1, 0, none⟩) (bel_set (p := ⟨w.heap.size, 2, none⟩) (bel_set (p := ⟨w.heap.size, 1, none⟩) (bel_set (p := ⟨w.heap.size, 0, none⟩) (HW.out) (by show w.heap.size ≤ w.heap.size; omega) _) (by show w.heap.size ≤ w.heap.size; omega) _) (by show w.heap.size ≤ w.heap.size; omega) _) (by show w.heap.size ≤ w.heap.size + 1; omega) _) (by show w.heap.size ≤ w.heap.size + 1; omega) _) (by show w.heap.size ≤ w.heap.size + 1; omega) _)
    clear hwf
    have CX0 : wf.cell? ⟨w.heap.size, 0, none⟩ = some (.bool true) := CX.out.cell 0
    have CX1 : wf.cell? ⟨w.heap.size, 1, none⟩ = some (.slice A (limbs n).length c) := CX.out.cell 1
    have CX2 : wf.cell? ⟨w.heap.size, 2, none⟩ = some (.slice B (limbs d0).length d) := CX.out.cell 2
    have CY0 : wf.cell? ⟨w.heap.size + 1, 0, none⟩ = some (.bool true) := CY.out.cell 0
    have CY1 : wf.cell? ⟨w.heap.size + 1, 1, none⟩ = some (.slice A' (limbs m).length c') := CY.out.cell 1
    have CY2 : wf.cell? ⟨w.heap.size + 1, 2, none⟩ = some (.slice B' (limbs f0).length d') := CY.out.cell 2
    go_wp2_with fail
    refine (qcmp_is (v := -cmpI (x : Int) (y : Int)) A B A' B' c d c' d' ⟨true, n, d0⟩ ⟨true, m, f0⟩ _ R1.out R2.out R3.out R4.out KC.out.1 KC.out.2.1 KC.out.2.2.1 KC.out.2.2.2 HQ.out.1 HQ.out.2.1 HP.out.1 HP.out.2.1 HQ.out.2.2 HP.out.2.2 (by show n * f0 < Top ∧ m * d0 < Top; rw [HXY.out.1, HXY.out.2]; exact ⟨HF.out, HF2.out⟩) (by show cmpS true true (n * f0) (m * d0) = _; rw [HXY.out.1, HXY.out.2]; exact cmpS_tt x y)).mono ?_
    rintro e w1 ⟨rfl, hbl⟩
    replace R1 := Lib.hid (R1.out.below hbl)
    replace R2 := Lib.hid (R2.out.below hbl)
    replace R3 := Lib.hid (R3.out.below hbl)
    replace R4 := Lib.hid (R4.out.below hbl)
    replace CX := Lib.hid (CX.out.below hbl CX.out.lt)
    replace CY := Lib.hid (CY.out.below hbl CY.out.lt)
    replace HW := Lib.hid (bel_trans HW.out hbl); clear hbl
    clear CX0 CX1 CX2 CY0 CY1 CY2
    have CX0 : w1.cell? ⟨w.heap.size, 0, none⟩ = some (.bool true) := CX.out.cell 0
    have CX1 : w1.cell? ⟨w.heap.size, 1, none⟩ = some (.slice A (limbs n).length c) := CX.out.cell 1
    have CX2 : w1.cell? ⟨w.heap.size, 2, none⟩ = some (.slice B (limbs d0).length d) := CX.out.cell 2
    have CY0 : w1.cell? ⟨w.heap.size + 1, 0, none⟩ = some (.bool true) := CY.out.cell 0
    have CY1 : w1.cell? ⟨w.heap.size + 1, 1, none⟩ = some (.slice A' (limbs m).length c') := CY.out.cell 1
    have CY2 : w1.cell? ⟨w.heap.size + 1, 2, none⟩ = some (.slice B' (limbs f0).length d') := CY.out.cell 2
    go_wp2_with fail
    refine (trunc_q ⟨true, n, d0⟩ A B c d _ R1.out R2.out KC.out.1 KC.out.2.1 HQ.out.1 HQ.out.2.1 HQ.out.2.2 HT.out).mono ?_
    rintro e w2 ⟨vx, vy, rfl, hnx, hny, hbl⟩
    replace R1 := Lib.hid (R1.out.below hbl)
    replace R2 := Lib.hid (R2.out.below hbl)
    replace R3 := Lib.hid (R3.out.below hbl)
    replace R4 := Lib.hid (R4.out.below hbl)
    replace CX := Lib.hid (CX.out.below hbl CX.out.lt)
    replace CY := Lib.hid (CY.out.below hbl CY.out.lt)
    replace HW := Lib.hid (bel_trans HW.out hbl); clear hbl
    clear CX0 CX1 CX2 CY0 CY1 CY2
    have CX0 : w2.cell? ⟨w.heap.size, 0, none⟩ = some (.bool true) := CX.out.cell 0
    have CX1 : w2.cell? ⟨w.heap.size, 1, none⟩ = some (.slice A (limbs n).length c) := CX.out.cell 1
    have CX2 : w2.cell? ⟨w.heap.size, 2, none⟩ = some (.slice B (limbs d0).length d) := CX.out.cell 2
    have CY0 : w2.cell? ⟨w.heap.size + 1, 0, none⟩ = some (.bool true) := CY.out.cell 0
    have CY1 : w2.cell? ⟨w.heap.size + 1, 1, none⟩ = some (.slice A' (limbs m).length c') := CY.out.cell 1
    have CY2 : w2.cell? ⟨w.heap.size + 1, 2, none⟩ = some (.slice B' (limbs f0).length d') := CY.out.cell 2
    have HNx := Lib.hid hnx; clear hnx
    obtain ⟨Ax, cx, rfl, hcx, hrx⟩ := HNx.out.row
    have Rx := Lib.hid hrx; have HCx := Lib.hid hcx; clear hrx hcx
    have HNy := Lib.hid hny; clear hny
    obtain ⟨Ay, cy, rfl, hcy, hry⟩ := HNy.out.row
    have Ry := Lib.hid hry; have HCy := Lib.hid hcy; clear hry hcy
    go_upto_region 4 with fail
    obtain ⟨wm, hwm⟩ : ∃ wm, wm = w2.alloc (.cells #[.bool t.s, .slice Ax (limbs t.n).length cx, .slice Ay (limbs t.d).length cy] 25) := ⟨_, rfl⟩
    rw [← hwm]
    have hbl : Below w2.heap.size w2 wm := by rw [hwm]; exact bel_alloc (bel_refl _) _
    have VX : Blk wm (w2.heap.size) 25 #[.bool t.s, .slice Ax (limbs t.n).length cx, .slice Ay (limbs t.d).length cy] := by
      have hz := Blk.new (w2) 25 #[.bool t.s, .slice Ax (limbs t.n).length cx, .slice Ay (limbs t.d).length cy]
      rw [hwm]
      exact hz
    clear hwm
    replace R1 := Lib.hid (R1.out.below hbl)
    replace R2 := Lib.hid (R2.out.below hbl)
    replace R3 := Lib.hid (R3.out.below hbl)
    replace R4 := Lib.hid (R4.out.below hbl)
    replace Rx := Lib.hid (Rx.out.below hbl)
    replace HNx := Lib.hid (HNx.out.below hbl)
    replace Ry := Lib.hid (Ry.out.below hbl)
    replace HNy := Lib.hid (HNy.out.below hbl)
    replace CX := Lib.hid (CX.out.below hbl CX.out.lt)
    replace CY := Lib.hid (CY.out.below hbl CY.out.lt)
    replace HW := Lib.hid (bel_trans HW.out hbl); clear hbl
    replace VX := Lib.hid VX
    clear CX0 CX1 CX2 CY0 CY1 CY2
    have CX0 : wm.cell? ⟨w.heap.size, 0, none⟩ = some (.bool true) := CX.out.cell 0
    have CX1 : wm.cell? ⟨w.heap.size, 1, none⟩ = some (.slice A (limbs n).length c) := CX.out.cell 1
    have CX2 : wm.cell? ⟨w.heap.size, 2, none⟩ = some (.slice B (limbs d0).length d) := CX.out.cell 2
    have CY0 : wm.cell? ⟨w.heap.size + 1, 0, none⟩ = some (.bool true) := CY.out.cell 0
    have CY1 : wm.cell? ⟨w.heap.size + 1, 1, none⟩ = some (.slice A' (limbs m).length c') := CY.out.cell 1
    have CY2 : wm.cell? ⟨w.heap.size + 1, 2, none⟩ = some (.slice B' (limbs f0).length d') := CY.out.cell 2
    have VX0 : wm.cell? ⟨w2.heap.size, 0, none⟩ = some (.bool t.s) := VX.out.cell 0
    have VX1 : wm.cell? ⟨w2.heap.size, 1, none⟩ = some (.slice Ax (limbs t.n).length cx) := VX.out.cell 1
    have VX2 : wm.cell? ⟨w2.heap.size, 2, none⟩ = some (.slice Ay (limbs t.d).length cy) := VX.out.cell 2
    go_wp2_with fail
    refine (refRatRight_is true A B c d (limbs n) (limbs d0) _ R1.out R2.out M.out.1 M.out.2.1 L18.out.1 L18.out.2.1 HR.out).mono ?_
    rintro e w3 ⟨rfl, hbl⟩
    replace R1 := Lib.hid (R1.out.below hbl)
    replace R2 := Lib.hid (R2.out.below hbl)
    replace R3 := Lib.hid (R3.out.below hbl)
    replace R4 := Lib.hid (R4.out.below hbl)
    replace Rx := Lib.hid (Rx.out.below hbl)
    replace HNx := Lib.hid (HNx.out.below hbl)
    replace Ry := Lib.hid (Ry.out.below hbl)
    replace HNy := Lib.hid (HNy.out.below hbl)
    replace CX := Lib.hid (CX.out.below hbl CX.out.lt)
    replace CY := Lib.hid (CY.out.below hbl CY.out.lt)
    replace VX := Lib.hid (VX.out.below hbl VX.out.lt)
    replace HW := Lib.hid (bel_trans HW.out hbl); clear hbl
    clear CX0 CX1 CX2 CY0 CY1 CY2 VX0 VX1 VX2
    have CX0 : w3.cell? ⟨w.heap.size, 0, none⟩ = some (.bool true) := CX.out.cell 0
    have CX1 : w3.cell? ⟨w.heap.size, 1, none⟩ = some (.slice A (limbs n).length c) := CX.out.cell 1
    have CX2 : w3.cell? ⟨w.heap.size, 2, none⟩ = some (.slice B (limbs d0).length d) := CX.out.cell 2
    have CY0 : w3.cell? ⟨w.heap.size + 1, 0, none⟩ = some (.bool true) := CY.out.cell 0
    have CY1 : w3.cell? ⟨w.heap.size + 1, 1, none⟩ = some (.slice A' (limbs m).length c') := CY.out.cell 1
    have CY2 : w3.cell? ⟨w.heap.size + 1, 2, none⟩ = some (.slice B' (limbs f0).length d') := CY.out.cell 2
    have VX0 : w3.cell? ⟨w2.heap.size, 0, none⟩ = some (.bool t.s) := VX.out.cell 0
    have VX1 : w3.cell? ⟨w2.heap.size, 1, none⟩ = some (.slice Ax (limbs t.n).length cx) := VX.out.cell 1
    have VX2 : w3.cell? ⟨w2.heap.size, 2, none⟩ = some (.slice Ay (limbs t.d).length cy) := VX.out.cell 2
    go_wp2_with fail
    refine (refOf_any true A B c d n d0 _ R1.out R2.out HQ.out.1 HQ.out.2.1).mono ?_
    rintro e w4 ⟨rfl, hbl⟩
    replace R1 := Lib.hid (R1.out.below hbl)
    replace R2 := Lib.hid (R2.out.below hbl)
    replace R3 := Lib.hid (R3.out.below hbl)
    replace R4 := Lib.hid (R4.out.below hbl)
    replace Rx := Lib.hid (Rx.out.below hbl)
    replace HNx := Lib.hid (HNx.out.below hbl)
    replace Ry := Lib.hid (Ry.out.below hbl)
    replace HNy := Lib.hid (HNy.out.below hbl)
    replace CX := Lib.hid (CX.out.below hbl CX.out.lt)
    replace CY := Lib.hid (CY.out.below hbl CY.out.lt)
    replace VX := Lib.hid (VX.out.below hbl VX.out.lt)
    replace HW := Lib.hid (bel_trans HW.out hbl); clear hbl
    clear CX0 CX1 CX2 CY0 CY1 CY2 VX0 VX1 VX2
    have CX0 : w4.cell? ⟨w.heap.size, 0, none⟩ = some (.bool true) := CX.out.cell 0
    have CX1 : w4.cell? ⟨w.heap.size, 1, none⟩ = some (.slice A (limbs n).length c) := CX.out.cell 1
    have CX2 : w4.cell? ⟨w.heap.size, 2, none⟩ = some (.slice B (limbs d0).length d) := CX.out.cell 2
    have CY0 : w4.cell? ⟨w.heap.size + 1, 0, none⟩ = some (.bool true) := CY.out.cell 0
    have CY1 : w4.cell? ⟨w.heap.size + 1, 1, none⟩ = some (.slice A' (limbs m).length c') := CY.out.cell 1
    have CY2 : w4.cell? ⟨w.heap.size + 1, 2, none⟩ = some (.slice B' (limbs f0).length d') := CY.out.cell 2
    have VX0 : w4.cell? ⟨w2.heap.size, 0, none⟩ = some (.bool t.s) := VX.out.cell 0
    have VX1 : w4.cell? ⟨w2.heap.size, 1, none⟩ = some (.slice Ax (limbs t.n).length cx) := VX.out.cell 1
    have VX2 : w4.cell? ⟨w2.heap.size, 2, none⟩ = some (.slice Ay (limbs t.d).length cy) := VX.out.cell 2
    go_upto_region 7 with fail
    obtain ⟨wn, hwn⟩ : ∃ wn, wn = w4.alloc (.cells #[.bool true, .string (dec n), .string (dec d0), .bool false] 49) := ⟨_, rfl⟩
    rw [← hwn]
    have hbl : Below w4.heap.size w4 wn := by rw [hwn]; exact bel_alloc (bel_refl _) _
    have VF : Blk wn (w4.heap.size) 49 #[.bool true, .string (dec n), .string (dec d0), .bool false] := by
      have hz := Blk.new (w4) 49 #[.bool true, .string (dec n), .string (dec d0), .bool false]
      rw [hwn]
      exact hz
    clear hwn
    replace R1 := Lib.hid (R1.out.below hbl)
    replace R2 := Lib.hid (R2.out.below hbl)
    replace R3 := Lib.hid (R3.out.below hbl)
    replace R4 := Lib.hid (R4.out.below hbl)
    replace Rx := Lib.hid (Rx.out.below hbl)
    replace HNx := Lib.hid (HNx.out.below hbl)
    replace Ry := Lib.hid (Ry.out.below hbl)
    replace HNy := Lib.hid (HNy.out.below hbl)
    replace CX := Lib.hid (CX.out.below hbl CX.out.lt)
    replace CY := Lib.hid (CY.out.below hbl CY.out.lt)
    replace VX := Lib.hid (VX.out.below hbl VX.out.lt)
    replace HW := Lib.hid (bel_trans HW.out hbl); clear hbl
    replace VF := Lib.hid VF
    clear CX0 CX1 CX2 CY0 CY1 CY2 VX0 VX1 VX2
    have CX0 : wn.cell? ⟨w.heap.size, 0, none⟩ = some (.bool true) := CX.out.cell 0
    have CX1 : wn.cell? ⟨w.heap.size, 1, none⟩ = some (.slice A (limbs n).length c) := CX.out.cell 1
    have CX2 : wn.cell? ⟨w.heap.size, 2, none⟩ = some (.slice B (limbs d0).length d) := CX.out.cell 2
    have CY0 : wn.cell? ⟨w.heap.size + 1, 0, none⟩ = some (.bool true) := CY.out.cell 0
    have CY1 : wn.cell? ⟨w.heap.size + 1, 1, none⟩ = some (.slice A' (limbs m).length c') := CY.out.cell 1
    have CY2 : wn.cell? ⟨w.heap.size + 1, 2, none⟩ = some (.slice B' (limbs f0).length d') := CY.out.cell 2
    have VX0 : wn.cell? ⟨w2.heap.size, 0, none⟩ = some (.bool t.s) := VX.out.cell 0
    have VX1 : wn.cell? ⟨w2.heap.size, 1, none⟩ = some (.slice Ax (limbs t.n).length cx) := VX.out.cell 1
    have VX2 : wn.cell? ⟨w2.heap.size, 2, none⟩ = some (.slice Ay (limbs t.d).length cy) := VX.out.cell 2
    have VF0 : wn.cell? ⟨w4.heap.size, 0, none⟩ = some (.bool true) := VF.out.cell 0
    have VF1 : wn.cell? ⟨w4.heap.size, 1, none⟩ = some (.string (dec n)) := VF.out.cell 1
    have VF2 : wn.cell? ⟨w4.heap.size, 2, none⟩ = some (.string (dec d0)) := VF.out.cell 2
    have VF3 : wn.cell? ⟨w4.heap.size, 3, none⟩ = some (.bool false) := VF.out.cell 3
    have hfd := fun W => field_q (dec (n / d0)) (dec (n % d0)) W
    refine wp_region_typedG 21 (TOf [VIs (.int .i64 0),
        VIs (.bool false),
        VIs (.bool false),
        VIs (.agg #[.bool t.s, .slice Ax (limbs t.n).length cx, .slice Ay (limbs t.d).length cy]),
        VIs (.pointer (some ⟨w4.heap.size, 0, none⟩)),
        VIs (.bool true),
        VIs (.pointer (some ⟨w4.heap.size, 1, none⟩)),
        VIs (.string (dec n)),
        VIs (.pointer (some ⟨w4.heap.size, 2, none⟩)),
        VIs (.string (dec d0)),
        VIs (.agg #[.string (dec (n / d0)), .string (dec (n % d0))]),
        VIs (.string (dec (n / d0))),
        VIs (.agg #[.bool true, .string (dec (n / d0)), .string ⟨#[49]⟩, .bool false]),
        VIs (.agg #[.bool t.s, .string (dec t.n), .string (dec t.d), .bool false]),
        VIs (.bool true),
        VIs (.bool false),
        VIs (.bool false),
        VIs (.bool false),
        VIs (.bool true),
        VIs (.bool false),
        VIs (.bool false)]) (by kernel_rfl) (by kernel_rfl) (by kernel_rfl) (LiftAll.at_ (.cons (VIs.lift _) (.cons (VIs.lift _) (.cons (VIs.lift _) (.cons (VIs.lift _) (.cons (VIs.lift _) (.cons (VIs.lift _) (.cons (VIs.lift _) (.cons (VIs.lift _) (.cons (VIs.lift _) (.cons (VIs.lift _) (.cons (VIs.lift _) (.cons (VIs.lift _) (.cons (VIs.lift _) (.cons (VIs.lift _) (.cons (VIs.lift _) (.cons (VIs.lift _) (.cons (VIs.lift _) (.cons (VIs.lift _) (.cons (VIs.lift _) (.cons (VIs.lift _) (.cons (VIs.lift _) .nil)))))))))))))))))))))) (stepsG_all (stepsG_cons ?_ (stepsG_cons ?_ (stepsG_cons ?_ (stepsG_cons ?_ (stepsG_cons ?_ (stepsG_cons ?_ (stepsG_cons ?_ (stepsG_cons ?_ (stepsG_cons ?_ (stepsG_cons ?_ (stepsG_cons ?_ (stepsG_cons ?_ (stepsG_cons ?_ (stepsG_cons ?_ (stepsG_cons ?_ (stepsG_cons ?_ (stepsG_cons ?_ (stepsG_cons ?_ (stepsG_cons ?_ (stepsG_cons ?_ (stepsG_cons ?_ stepsG_zero)))))))))))))))))))))) ?fin
    · refine stepG_plain rfl ?_
      intro a0 w9 K9 hF hB hK hC
      have b8 := hF.base (k := 8) (v := .int .i64 0) (by kernel_rfl) rfl
      clear hF hB hK
      go_simp
      exact hC _ _ (bel_refl _) fun _ _ => rfl
    · refine stepG_plain rfl ?_
      intro a0 w9 K9 hF hB hK hC
      obtain ⟨v52, e52, z52⟩ := dep hK 0 (g := .data) (j := 0) (k := 52) rfl rfl rfl
      have z52 : v52 = .int .i64 0 := z52
      subst z52
      have HB9 := Lib.hid hB
      clear hF hB hK
      go_simp
      exact hC _ _ (bel_refl _) fun _ _ => rfl
    · refine stepG_plain rfl ?_
      intro a0 w9 K9 hF hB hK hC
      obtain ⟨v53, e53, z53⟩ := dep hK 0 (g := .data) (j := 1) (k := 53) rfl rfl rfl
      have z53 : v53 = .bool false := z53
      subst z53
      clear hF hB hK
      go_simp
      exact hC _ _ (bel_refl _) fun _ _ => rfl
    · intro a0 w9 K9 hF hB hK hC
      obtain ⟨vg, eg, zg⟩ := dep hK 0 (g := .guard) (j := 2) (k := 54) rfl rfl rfl
      have zg : vg = .bool false := zg
      subst zg
      refine guard_in (j := 2) (k := 54) (want := false) rfl rfl eg rfl ?_
      have b7 := hF.base (k := 7) (v := .pointer (some ⟨w2.heap.size, 0, none⟩)) (by kernel_rfl) rfl
      have x90 : w9.cell? ⟨w2.heap.size, 0, none⟩ = some (.bool t.s) := (VX.out.below hB VX.out.lt).cell 0
      have x91 : w9.cell? ⟨w2.heap.size, 1, none⟩ = some (.slice Ax (limbs t.n).length cx) := (VX.out.below hB VX.out.lt).cell 1
      have x92 : w9.cell? ⟨w2.heap.size, 2, none⟩ = some (.slice Ay (limbs t.d).length cy) := (VX.out.below hB VX.out.lt).cell 2
      clear hF hB hK
      go_simp
      exact hC _ _ (bel_refl _) fun _ _ => rfl
    · intro a0 w9 K9 hF hB hK hC
      obtain ⟨vg, eg, zg⟩ := dep hK 0 (g := .guard) (j := 2) (k := 54) rfl rfl rfl
      have zg : vg = .bool false := zg
      subst zg
      refine guard_in (j := 2) (k := 54) (want := false) rfl rfl eg rfl ?_
      have b9 := hF.base (k := 9) (v := .pointer (some ⟨w4.heap.size, 0, none⟩)) (by kernel_rfl) rfl
      clear hF hB hK
      go_simp
      exact hC _ _ (bel_refl _) fun _ _ => rfl
    · intro a0 w9 K9 hF hB hK hC
      obtain ⟨vg, eg, zg⟩ := dep hK 1 (g := .guard) (j := 2) (k := 54) rfl rfl rfl
      have zg : vg = .bool false := zg
      subst zg
      refine guard_in (j := 2) (k := 54) (want := false) rfl rfl eg rfl ?_
      obtain ⟨v56, e56, z56⟩ := dep hK 0 (g := .data) (j := 4) (k := 56) rfl rfl rfl
      have z56 : v56 = .pointer (some ⟨w4.heap.size, 0, none⟩) := z56
      subst z56
      have x9 : w9.cell? ⟨w4.heap.size, 0, none⟩ = some (.bool true) := (VF.out.below hB VF.out.lt).cell 0
      clear hF hB hK
      go_simp
      exact hC _ _ (bel_refl _) fun _ _ => rfl
    · intro a0 w9 K9 hF hB hK hC
      obtain ⟨vg, eg, zg⟩ := dep hK 0 (g := .guard) (j := 2) (k := 54) rfl rfl rfl
      have zg : vg = .bool false := zg
      subst zg
      refine guard_in (j := 2) (k := 54) (want := false) rfl rfl eg rfl ?_
      have b9 := hF.base (k := 9) (v := .pointer (some ⟨w4.heap.size, 0, none⟩)) (by kernel_rfl) rfl
      clear hF hB hK
      go_simp
      exact hC _ _ (bel_refl _) fun _ _ => rfl
    · intro a0 w9 K9 hF hB hK hC
      obtain ⟨vg, eg, zg⟩ := dep hK 1 (g := .guard) (j := 2) (k := 54) rfl rfl rfl
      have zg : vg = .bool false := zg
      subst zg
      refine guard_in (j := 2) (k := 54) (want := false) rfl rfl eg rfl ?_
      obtain ⟨v58, e58, z58⟩ := dep hK 0 (g := .data) (j := 6) (k := 58) rfl rfl rfl
      have z58 : v58 = .pointer (some ⟨w4.heap.size, 1, none⟩) := z58
      subst z58
      have x9 : w9.cell? ⟨w4.heap.size, 1, none⟩ = some (.string (dec n)) := (VF.out.below hB VF.out.lt).cell 1
      clear hF hB hK
      go_simp
      exact hC _ _ (bel_refl _) fun _ _ => rfl
    · intro a0 w9 K9 hF hB hK hC
      obtain ⟨vg, eg, zg⟩ := dep hK 0 (g := .guard) (j := 2) (k := 54) rfl rfl rfl
      have zg : vg = .bool false := zg
      subst zg
      refine guard_in (j := 2) (k := 54) (want := false) rfl rfl eg rfl ?_
      have b9 := hF.base (k := 9) (v := .pointer (some ⟨w4.heap.size, 0, none⟩)) (by kernel_rfl) rfl
      clear hF hB hK
      go_simp
      exact hC _ _ (bel_refl _) fun _ _ => rfl
    · intro a0 w9 K9 hF hB hK hC
      obtain ⟨vg, eg, zg⟩ := dep hK 1 (g := .guard) (j := 2) (k := 54) rfl rfl rfl
      have zg : vg = .bool false := zg
      subst zg
      refine guard_in (j := 2) (k := 54) (want := false) rfl rfl eg rfl ?_
      obtain ⟨v60, e60, z60⟩ := dep hK 0 (g := .data) (j := 8) (k := 60) rfl rfl rfl
      have z60 : v60 = .pointer (some ⟨w4.heap.size, 2, none⟩) := z60
      subst z60
      have x9 : w9.cell? ⟨w4.heap.size, 2, none⟩ = some (.string (dec d0)) := (VF.out.below hB VF.out.lt).cell 2
      clear hF hB hK
      go_simp
      exact hC _ _ (bel_refl _) fun _ _ => rfl
    · intro a0 w9 K9 hF hB hK hC
      obtain ⟨vg, eg, zg⟩ := dep hK 3 (g := .guard) (j := 2) (k := 54) rfl rfl rfl
      have zg : vg = .bool false := zg
      subst zg
      refine guard_in (j := 2) (k := 54) (want := false) rfl rfl eg rfl ?_
      obtain ⟨v59, e59, z59⟩ := dep hK 0 (g := .data) (j := 7) (k := 59) rfl rfl rfl
      have z59 : v59 = .string (dec n) := z59
      subst z59
      obtain ⟨v61, e61, z61⟩ := dep hK 1 (g := .data) (j := 9) (k := 61) rfl rfl rfl
      have z61 : v61 = .string (dec d0) := z61
      subst z61
      have HB9 := Lib.hid hB
      clear hF hB hK
      go_simp
      refine (refDiv_any n d0 _ (by have := decL_top HQ.out.1; omega) (by have := decL_top HQ.out.2.1; omega) HQ.out.2.2.den).mono ?_
      rintro e w7 ⟨rfl, hbl⟩
      exact hC _ _ hbl fun _ _ => rfl
    · intro a0 w9 K9 hF hB hK hC
      obtain ⟨vg, eg, zg⟩ := dep hK 1 (g := .guard) (j := 2) (k := 54) rfl rfl rfl
      have zg : vg = .bool false := zg
      subst zg
      refine guard_in (j := 2) (k := 54) (want := false) rfl rfl eg rfl ?_
      obtain ⟨v62, e62, z62⟩ := dep hK 0 (g := .data) (j := 10) (k := 62) rfl rfl rfl
      have z62 : v62 = .agg #[.string (dec (n / d0)), .string (dec (n % d0))] := z62
      subst z62
      have HB9 := Lib.hid hB
      clear hF hB hK
      go_simp
      exact hC _ _ (bel_refl _) fun _ _ => rfl
    · intro a0 w9 K9 hF hB hK hC
      obtain ⟨vg, eg, zg⟩ := dep hK 2 (g := .guard) (j := 2) (k := 54) rfl rfl rfl
      have zg : vg = .bool false := zg
      subst zg
      refine guard_in (j := 2) (k := 54) (want := false) rfl rfl eg rfl ?_
      obtain ⟨v57, e57, z57⟩ := dep hK 0 (g := .data) (j := 5) (k := 57) rfl rfl rfl
      have z57 : v57 = .bool true := z57
      subst z57
      obtain ⟨v63, e63, z63⟩ := dep hK 1 (g := .data) (j := 11) (k := 63) rfl rfl rfl
      have z63 : v63 = .string (dec (n / d0)) := z63
      subst z63
      have HB9 := Lib.hid hB
      clear hF hB hK
      go_simp
      exact hC _ _ (bel_refl _) fun _ _ => rfl
    · intro a0 w9 K9 hF hB hK hC
      obtain ⟨vg, eg, zg⟩ := dep hK 2 (g := .guard) (j := 2) (k := 54) rfl rfl rfl
      have zg : vg = .bool false := zg
      subst zg
      refine guard_in (j := 2) (k := 54) (want := false) rfl rfl eg rfl ?_
      obtain ⟨v64, e64, z64⟩ := dep hK 0 (g := .data) (j := 12) (k := 64) rfl rfl rfl
      have z64 : v64 = .agg #[.bool true, .string (dec (n / d0)), .string ⟨#[49]⟩, .bool false] := z64
      subst z64
      have HB9 := Lib.hid hB
      clear hF hB hK
      rw [← dec_one] at e64
      go_simp
      refine (refRed_fit true (n / d0) 1 _ (lt_top (Nat.div_le_self n d0) HQ.out.1) (small_top (by decide)) HT.out).mono ?_
      rintro e w7 ⟨rfl, hbl⟩
      exact hC _ _ hbl fun _ _ => rfl
    · intro a0 w9 K9 hF hB hK hC
      obtain ⟨vg, eg, zg⟩ := dep hK 3 (g := .guard) (j := 2) (k := 54) rfl rfl rfl
      have zg : vg = .bool false := zg
      subst zg
      refine guard_in (j := 2) (k := 54) (want := false) rfl rfl eg rfl ?_
      obtain ⟨v55, e55, z55⟩ := dep hK 0 (g := .data) (j := 3) (k := 55) rfl rfl rfl
      have z55 : v55 = .agg #[.bool t.s, .slice Ax (limbs t.n).length cx, .slice Ay (limbs t.d).length cy] := z55
      subst z55
      obtain ⟨v65, e65, z65⟩ := dep hK 1 (g := .data) (j := 13) (k := 65) rfl rfl rfl
      have z65 : v65 = .agg #[.bool t.s, .string (dec t.n), .string (dec t.d), .bool false] := z65
      subst z65
      have HB9 := Lib.hid hB
      clear hF hB hK
      go_simp
      refine (refIs_true t false Ax Ay cx cy _ (Rx.out.below HB9.out) (Ry.out.below HB9.out) HTF.out.1 HTF.out.2.1 HTF.out.2.2).mono ?_
      rintro e w7 ⟨rfl, hbl⟩
      exact hC _ _ hbl fun _ _ => rfl
    · intro a0 w9 K9 hF hB hK hC
      obtain ⟨vg, eg, zg⟩ := dep hK 1 (g := .guard) (j := 2) (k := 54) rfl rfl rfl
      have zg : vg = .bool false := zg
      subst zg
      refine guard_in (j := 2) (k := 54) (want := false) rfl rfl eg rfl ?_
      obtain ⟨v66, e66, z66⟩ := dep hK 0 (g := .data) (j := 14) (k := 66) rfl rfl rfl
      have z66 : v66 = .bool true := z66
      subst z66
      have HB9 := Lib.hid hB
      clear hF hB hK
      go_simp
      exact hC _ _ (bel_refl _) fun _ _ => rfl
    · refine stepG_plain rfl ?_
      intro a0 w9 K9 hF hB hK hC
      obtain ⟨v54, e54, z54⟩ := dep hK 0 (g := .data) (j := 2) (k := 54) rfl rfl rfl
      have z54 : v54 = .bool false := z54
      subst z54
      obtain ⟨v67, e67, z67⟩ := dep hK 1 (g := .data) (j := 15) (k := 67) rfl rfl rfl
      have z67 : v67 = .bool false := z67
      subst z67
      have HB9 := Lib.hid hB
      clear hF hB hK
      go_simp
      exact hC _ _ (bel_refl _) fun _ _ => rfl
    · refine stepG_plain rfl ?_
      intro a0 w9 K9 hF hB hK hC
      obtain ⟨v68, e68, z68⟩ := dep hK 0 (g := .data) (j := 16) (k := 68) rfl rfl rfl
      have z68 : v68 = .bool false := z68
      subst z68
      clear hF hB hK
      go_simp
      exact hC _ _ (bel_refl _) fun _ _ => rfl
    · intro a0 w9 K9 hF hB hK hC
      obtain ⟨vg, eg, zg⟩ := dep hK 1 (g := .guard) (j := 17) (k := 69) rfl rfl rfl
      have zg : vg = .bool false := zg
      subst zg
      refine guard_in (j := 17) (k := 69) (want := false) rfl rfl eg rfl ?_
      have HB9 := Lib.hid hB
      clear hF hB hK
      go_simp
      refine (aliveQ _).mono ?_
      rintro e w7 ⟨rfl, hbl⟩
      exact hC _ _ hbl fun _ _ => rfl
    · intro a0 w9 K9 hF hB hK hC
      obtain ⟨vg, eg, zg⟩ := dep hK 1 (g := .guard) (j := 17) (k := 69) rfl rfl rfl
      have zg : vg = .bool false := zg
      subst zg
      refine guard_in (j := 17) (k := 69) (want := false) rfl rfl eg rfl ?_
      obtain ⟨v70, e70, z70⟩ := dep hK 0 (g := .data) (j := 18) (k := 70) rfl rfl rfl
      have z70 : v70 = .bool true := z70
      subst z70
      have HB9 := Lib.hid hB
      clear hF hB hK
      go_simp
      exact hC _ _ (bel_refl _) fun _ _ => rfl
    · refine stepG_plain rfl ?_
      intro a0 w9 K9 hF hB hK hC
      obtain ⟨v69, e69, z69⟩ := dep hK 0 (g := .data) (j := 17) (k := 69) rfl rfl rfl
      have z69 : v69 = .bool false := z69
      subst z69
      obtain ⟨v71, e71, z71⟩ := dep hK 1 (g := .data) (j := 19) (k := 71) rfl rfl rfl
      have z71 : v71 = .bool false := z71
      subst z71
      have HB9 := Lib.hid hB
      clear hF hB hK
      go_simp
      exact hC _ _ (bel_refl _) fun _ _ => rfl
    case fin =>
      intro a0 w9 hF hB hK
      have b2 := hF.base (k := 2) (v := .pointer (some ⟨w.heap.size, 0, none⟩)) (by kernel_rfl) rfl
      have b3 := hF.base (k := 3) (v := .pointer (some ⟨w.heap.size + 1, 0, none⟩)) (by kernel_rfl) rfl
      have b5 := hF.base (k := 5) (v := .int .i64 (-cmpI (x : Int) (y : Int))) (by kernel_rfl) rfl
      have b6 := hF.base (k := 6) (v := .int .i64 0) (by kernel_rfl) rfl
      have b7 := hF.base (k := 7) (v := .pointer (some ⟨w2.heap.size, 0, none⟩)) (by kernel_rfl) rfl
      have b8 := hF.base (k := 8) (v := .int .i64 0) (by kernel_rfl) rfl
      have b9 := hF.base (k := 9) (v := .pointer (some ⟨w4.heap.size, 0, none⟩)) (by kernel_rfl) rfl
      have hsz := hF.size
      have hdf := hF.defers
      clear hF
      obtain ⟨v72, e72, z72⟩ := known hK 20 (k := 72) (by decide) rfl
      have z72 : v72 = .bool false := z72
      subst z72
      clear hK
      obtain ⟨⟨l0⟩, df⟩ := a0
      have hs0 : l0.length = 131 := hsz
      clear hsz
      replace hdf : df = _ := hdf
      subst hdf
      obtain ⟨u, rfl⟩ := lits_131 hs0
      clear hs0
      have q2 : u 2 = _ := Option.some.inj b2
      clear b2
      have q3 : u 3 = _ := Option.some.inj b3
      clear b3
      have q5 : u 5 = _ := Option.some.inj b5
      clear b5
      have q6 : u 6 = _ := Option.some.inj b6
      clear b6
      have q7 : u 7 = _ := Option.some.inj b7
      clear b7
      have q8 : u 8 = _ := Option.some.inj b8
      clear b8
      have q9 : u 9 = _ := Option.some.inj b9
      clear b9
      have q72 : u 72 = _ := Option.some.inj e72
      clear e72
      rw [q2, q3, q5, q6, q7, q8, q9, q72]
      clear q2 q3 q5 q6 q7 q8 q9 q72
      have hbl := hB; clear hB
      replace R1 := Lib.hid (R1.out.below hbl)
      replace R2 := Lib.hid (R2.out.below hbl)
      replace R3 := Lib.hid (R3.out.below hbl)
      replace R4 := Lib.hid (R4.out.below hbl)
      replace Rx := Lib.hid (Rx.out.below hbl)
      replace HNx := Lib.hid (HNx.out.below hbl)
      replace Ry := Lib.hid (Ry.out.below hbl)
      replace HNy := Lib.hid (HNy.out.below hbl)
      replace CX := Lib.hid (CX.out.below hbl CX.out.lt)
      replace CY := Lib.hid (CY.out.below hbl CY.out.lt)
      replace VX := Lib.hid (VX.out.below hbl VX.out.lt)
      replace VF := Lib.hid (VF.out.below hbl VF.out.lt)
      replace HW := Lib.hid (bel_trans HW.out hbl); clear hbl
      clear CX0 CX1 CX2 CY0 CY1 CY2 VX0 VX1 VX2 VF0 VF1 VF2 VF3
      have CX0 : w9.cell? ⟨w.heap.size, 0, none⟩ = some (.bool true) := CX.out.cell 0
      have CX1 : w9.cell? ⟨w.heap.size, 1, none⟩ = some (.slice A (limbs n).length c) := CX.out.cell 1
      have CX2 : w9.cell? ⟨w.heap.size, 2, none⟩ = some (.slice B (limbs d0).length d) := CX.out.cell 2
      have CY0 : w9.cell? ⟨w.heap.size + 1, 0, none⟩ = some (.bool true) := CY.out.cell 0
      have CY1 : w9.cell? ⟨w.heap.size + 1, 1, none⟩ = some (.slice A' (limbs m).length c') := CY.out.cell 1
      have CY2 : w9.cell? ⟨w.heap.size + 1, 2, none⟩ = some (.slice B' (limbs f0).length d') := CY.out.cell 2
      have VX0 : w9.cell? ⟨w2.heap.size, 0, none⟩ = some (.bool t.s) := VX.out.cell 0
      have VX1 : w9.cell? ⟨w2.heap.size, 1, none⟩ = some (.slice Ax (limbs t.n).length cx) := VX.out.cell 1
      have VX2 : w9.cell? ⟨w2.heap.size, 2, none⟩ = some (.slice Ay (limbs t.d).length cy) := VX.out.cell 2
      have VF0 : w9.cell? ⟨w4.heap.size, 0, none⟩ = some (.bool true) := VF.out.cell 0
      have VF1 : w9.cell? ⟨w4.heap.size, 1, none⟩ = some (.string (dec n)) := VF.out.cell 1
      have VF2 : w9.cell? ⟨w4.heap.size, 2, none⟩ = some (.string (dec d0)) := VF.out.cell 2
      have VF3 : w9.cell? ⟨w4.heap.size, 3, none⟩ = some (.bool false) := VF.out.cell 3
      refine wpList_nil ?_
      clear hfd
      go_wp2_with fail
      refine (refRatRight_is true A' B' c' d' (limbs m) (limbs f0) _ R3.out R4.out M.out.2.2.1 M.out.2.2.2 L18.out.2.2.1 L18.out.2.2.2 HRB.out).mono ?_
      rintro e w5 ⟨rfl, hbl⟩
      replace R1 := Lib.hid (R1.out.below hbl)
      replace R2 := Lib.hid (R2.out.below hbl)
      replace R3 := Lib.hid (R3.out.below hbl)
      replace R4 := Lib.hid (R4.out.below hbl)
      replace Rx := Lib.hid (Rx.out.below hbl)
      replace HNx := Lib.hid (HNx.out.below hbl)
      replace Ry := Lib.hid (Ry.out.below hbl)
      replace HNy := Lib.hid (HNy.out.below hbl)
      replace CX := Lib.hid (CX.out.below hbl CX.out.lt)
      replace CY := Lib.hid (CY.out.below hbl CY.out.lt)
      replace VX := Lib.hid (VX.out.below hbl VX.out.lt)
      replace VF := Lib.hid (VF.out.below hbl VF.out.lt)
      replace HW := Lib.hid (bel_trans HW.out hbl); clear hbl
      clear CX0 CX1 CX2 CY0 CY1 CY2 VX0 VX1 VX2 VF0 VF1 VF2 VF3
      have CX0 : w5.cell? ⟨w.heap.size, 0, none⟩ = some (.bool true) := CX.out.cell 0
      have CX1 : w5.cell? ⟨w.heap.size, 1, none⟩ = some (.slice A (limbs n).length c) := CX.out.cell 1
      have CX2 : w5.cell? ⟨w.heap.size, 2, none⟩ = some (.slice B (limbs d0).length d) := CX.out.cell 2
      have CY0 : w5.cell? ⟨w.heap.size + 1, 0, none⟩ = some (.bool true) := CY.out.cell 0
      have CY1 : w5.cell? ⟨w.heap.size + 1, 1, none⟩ = some (.slice A' (limbs m).length c') := CY.out.cell 1
      have CY2 : w5.cell? ⟨w.heap.size + 1, 2, none⟩ = some (.slice B' (limbs f0).length d') := CY.out.cell 2
      have VX0 : w5.cell? ⟨w2.heap.size, 0, none⟩ = some (.bool t.s) := VX.out.cell 0
      have VX1 : w5.cell? ⟨w2.heap.size, 1, none⟩ = some (.slice Ax (limbs t.n).length cx) := VX.out.cell 1
      have VX2 : w5.cell? ⟨w2.heap.size, 2, none⟩ = some (.slice Ay (limbs t.d).length cy) := VX.out.cell 2
      have VF0 : w5.cell? ⟨w4.heap.size, 0, none⟩ = some (.bool true) := VF.out.cell 0
      have VF1 : w5.cell? ⟨w4.heap.size, 1, none⟩ = some (.string (dec n)) := VF.out.cell 1
      have VF2 : w5.cell? ⟨w4.heap.size, 2, none⟩ = some (.string (dec d0)) := VF.out.cell 2
      have VF3 : w5.cell? ⟨w4.heap.size, 3, none⟩ = some (.bool false) := VF.out.cell 3
      go_wp2_with fail
      refine (refOf_any true A' B' c' d' m f0 _ R3.out R4.out HP.out.1 HP.out.2.1).mono ?_
      rintro e w6 ⟨rfl, hbl⟩
      replace R1 := Lib.hid (R1.out.below hbl)
      replace R2 := Lib.hid (R2.out.below hbl)
      replace R3 := Lib.hid (R3.out.below hbl)
      replace R4 := Lib.hid (R4.out.below hbl)
      replace Rx := Lib.hid (Rx.out.below hbl)
      replace HNx := Lib.hid (HNx.out.below hbl)
      replace Ry := Lib.hid (Ry.out.below hbl)
      replace HNy := Lib.hid (HNy.out.below hbl)
      replace CX := Lib.hid (CX.out.below hbl CX.out.lt)
      replace CY := Lib.hid (CY.out.below hbl CY.out.lt)
      replace VX := Lib.hid (VX.out.below hbl VX.out.lt)
      replace VF := Lib.hid (VF.out.below hbl VF.out.lt)
      replace HW := Lib.hid (bel_trans HW.out hbl); clear hbl
      clear CX0 CX1 CX2 CY0 CY1 CY2 VX0 VX1 VX2 VF0 VF1 VF2 VF3
      have CX0 : w6.cell? ⟨w.heap.size, 0, none⟩ = some (.bool true) := CX.out.cell 0
      have CX1 : w6.cell? ⟨w.heap.size, 1, none⟩ = some (.slice A (limbs n).length c) := CX.out.cell 1
      have CX2 : w6.cell? ⟨w.heap.size, 2, none⟩ = some (.slice B (limbs d0).length d) := CX.out.cell 2
      have CY0 : w6.cell? ⟨w.heap.size + 1, 0, none⟩ = some (.bool true) := CY.out.cell 0
      have CY1 : w6.cell? ⟨w.heap.size + 1, 1, none⟩ = some (.slice A' (limbs m).length c') := CY.out.cell 1
      have CY2 : w6.cell? ⟨w.heap.size + 1, 2, none⟩ = some (.slice B' (limbs f0).length d') := CY.out.cell 2
      have VX0 : w6.cell? ⟨w2.heap.size, 0, none⟩ = some (.bool t.s) := VX.out.cell 0
      have VX1 : w6.cell? ⟨w2.heap.size, 1, none⟩ = some (.slice Ax (limbs t.n).length cx) := VX.out.cell 1
      have VX2 : w6.cell? ⟨w2.heap.size, 2, none⟩ = some (.slice Ay (limbs t.d).length cy) := VX.out.cell 2
      have VF0 : w6.cell? ⟨w4.heap.size, 0, none⟩ = some (.bool true) := VF.out.cell 0
      have VF1 : w6.cell? ⟨w4.heap.size, 1, none⟩ = some (.string (dec n)) := VF.out.cell 1
      have VF2 : w6.cell? ⟨w4.heap.size, 2, none⟩ = some (.string (dec d0)) := VF.out.cell 2
      have VF3 : w6.cell? ⟨w4.heap.size, 3, none⟩ = some (.bool false) := VF.out.cell 3
      go_upto_region 12 with fail
      obtain ⟨wo, hwo⟩ : ∃ wo, wo = w6.alloc (.cells #[.bool true, .string (dec m), .string (dec f0), .bool false] 49) := ⟨_, rfl⟩
      rw [← hwo]
      have hbl : Below w6.heap.size w6 wo := by rw [hwo]; exact bel_alloc (bel_refl _) _
      have VG : Blk wo (w6.heap.size) 49 #[.bool true, .string (dec m), .string (dec f0), .bool false] := by
        have hz := Blk.new (w6) 49 #[.bool true, .string (dec m), .string (dec f0), .bool false]
        rw [hwo]
        exact hz
      clear hwo
      replace R1 := Lib.hid (R1.out.below hbl)
      replace R2 := Lib.hid (R2.out.below hbl)
      replace R3 := Lib.hid (R3.out.below hbl)
      replace R4 := Lib.hid (R4.out.below hbl)
      replace Rx := Lib.hid (Rx.out.below hbl)
      replace HNx := Lib.hid (HNx.out.below hbl)
      replace Ry := Lib.hid (Ry.out.below hbl)
      replace HNy := Lib.hid (HNy.out.below hbl)
      replace CX := Lib.hid (CX.out.below hbl CX.out.lt)
      replace CY := Lib.hid (CY.out.below hbl CY.out.lt)
      replace VX := Lib.hid (VX.out.below hbl VX.out.lt)
      replace VF := Lib.hid (VF.out.below hbl VF.out.lt)
      replace HW := Lib.hid (bel_trans HW.out hbl); clear hbl
      replace VG := Lib.hid VG
      clear CX0 CX1 CX2 CY0 CY1 CY2 VX0 VX1 VX2 VF0 VF1 VF2 VF3
      have CX0 : wo.cell? ⟨w.heap.size, 0, none⟩ = some (.bool true) := CX.out.cell 0
      have CX1 : wo.cell? ⟨w.heap.size, 1, none⟩ = some (.slice A (limbs n).length c) := CX.out.cell 1
      have CX2 : wo.cell? ⟨w.heap.size, 2, none⟩ = some (.slice B (limbs d0).length d) := CX.out.cell 2
      have CY0 : wo.cell? ⟨w.heap.size + 1, 0, none⟩ = some (.bool true) := CY.out.cell 0
      have CY1 : wo.cell? ⟨w.heap.size + 1, 1, none⟩ = some (.slice A' (limbs m).length c') := CY.out.cell 1
      have CY2 : wo.cell? ⟨w.heap.size + 1, 2, none⟩ = some (.slice B' (limbs f0).length d') := CY.out.cell 2
      have VX0 : wo.cell? ⟨w2.heap.size, 0, none⟩ = some (.bool t.s) := VX.out.cell 0
      have VX1 : wo.cell? ⟨w2.heap.size, 1, none⟩ = some (.slice Ax (limbs t.n).length cx) := VX.out.cell 1
      have VX2 : wo.cell? ⟨w2.heap.size, 2, none⟩ = some (.slice Ay (limbs t.d).length cy) := VX.out.cell 2
      have VF0 : wo.cell? ⟨w4.heap.size, 0, none⟩ = some (.bool true) := VF.out.cell 0
      have VF1 : wo.cell? ⟨w4.heap.size, 1, none⟩ = some (.string (dec n)) := VF.out.cell 1
      have VF2 : wo.cell? ⟨w4.heap.size, 2, none⟩ = some (.string (dec d0)) := VF.out.cell 2
      have VF3 : wo.cell? ⟨w4.heap.size, 3, none⟩ = some (.bool false) := VF.out.cell 3
      have VG0 : wo.cell? ⟨w6.heap.size, 0, none⟩ = some (.bool true) := VG.out.cell 0
      have VG1 : wo.cell? ⟨w6.heap.size, 1, none⟩ = some (.string (dec m)) := VG.out.cell 1
      have VG2 : wo.cell? ⟨w6.heap.size, 2, none⟩ = some (.string (dec f0)) := VG.out.cell 2
      have VG3 : wo.cell? ⟨w6.heap.size, 3, none⟩ = some (.bool false) := VG.out.cell 3
      refine wp_region_typed 12 (TOf [VIs (.pointer (some ⟨w4.heap.size, 1, none⟩)),
          VIs (.string (dec n)),
          VIs (.pointer (some ⟨w6.heap.size, 2, none⟩)),
          VIs (.string (dec f0)),
          VIs (.string (dec x)),
          VIs (.pointer (some ⟨w6.heap.size, 1, none⟩)),
          VIs (.string (dec m)),
          VIs (.pointer (some ⟨w4.heap.size, 2, none⟩)),
          VIs (.string (dec d0)),
          VIs (.string (dec y)),
          VIs (.string (dec x)),
          VIs (.string (dec y))]) (by kernel_rfl) (by kernel_rfl) (by kernel_rfl) (LiftAll.at_ (.cons (VIs.lift _) (.cons (VIs.lift _) (.cons (VIs.lift _) (.cons (VIs.lift _) (.cons (VIs.lift _) (.cons (VIs.lift _) (.cons (VIs.lift _) (.cons (VIs.lift _) (.cons (VIs.lift _) (.cons (VIs.lift _) (.cons (VIs.lift _) (.cons (VIs.lift _) .nil))))))))))))) (steps_all (steps_cons ?_ (steps_cons ?_ (steps_cons ?_ (steps_cons ?_ (steps_cons ?_ (steps_cons ?_ (steps_cons ?_ (steps_cons ?_ (steps_cons ?_ (steps_cons ?_ (steps_cons ?_ (steps_cons ?_ steps_zero))))))))))))) ?fin
      · intro a0 w9 K9 hF hB hK hC
        have b9 := hF.base (k := 9) (v := .pointer (some ⟨w4.heap.size, 0, none⟩)) (by kernel_rfl) rfl
        clear hF hB hK
        go_simp
        exact hC _ _ (bel_refl _) fun _ _ => rfl
      · intro a0 w9 K9 hF hB hK hC
        obtain ⟨v84, e84, z84⟩ := dep hK 0 (g := .data) (j := 0) (k := 84) rfl rfl rfl
        have z84 : v84 = .pointer (some ⟨w4.heap.size, 1, none⟩) := z84
        subst z84
        have x9 : w9.cell? ⟨w4.heap.size, 1, none⟩ = some (.string (dec n)) := (VF.out.below hB VF.out.lt).cell 1
        clear hF hB hK
        go_simp
        exact hC _ _ (bel_refl _) fun _ _ => rfl
      · intro a0 w9 K9 hF hB hK hC
        have b10 := hF.base (k := 10) (v := .pointer (some ⟨w6.heap.size, 0, none⟩)) (by kernel_rfl) rfl
        clear hF hB hK
        go_simp
        exact hC _ _ (bel_refl _) fun _ _ => rfl
      · intro a0 w9 K9 hF hB hK hC
        obtain ⟨v86, e86, z86⟩ := dep hK 0 (g := .data) (j := 2) (k := 86) rfl rfl rfl
        have z86 : v86 = .pointer (some ⟨w6.heap.size, 2, none⟩) := z86
        subst z86
        have x9 : w9.cell? ⟨w6.heap.size, 2, none⟩ = some (.string (dec f0)) := (VG.out.below hB VG.out.lt).cell 2
        clear hF hB hK
        go_simp
        exact hC _ _ (bel_refl _) fun _ _ => rfl
      · intro a0 w9 K9 hF hB hK hC
        obtain ⟨v85, e85, z85⟩ := dep hK 0 (g := .data) (j := 1) (k := 85) rfl rfl rfl
        have z85 : v85 = .string (dec n) := z85
        subst z85
        obtain ⟨v87, e87, z87⟩ := dep hK 1 (g := .data) (j := 3) (k := 87) rfl rfl rfl
        have z87 : v87 = .string (dec f0) := z87
        subst z87
        have HB9 := Lib.hid hB
        clear hF hB hK
        go_simp
        refine (refMul_any n f0 _ (by have := decL_top HQ.out.1; omega) (by have := decL_top HP.out.2.1; omega)).mono ?_
        rintro e w7 ⟨rfl, hbl⟩
        rw [HXY.out.1]
        exact hC _ _ hbl fun _ _ => rfl
      · intro a0 w9 K9 hF hB hK hC
        have b10 := hF.base (k := 10) (v := .pointer (some ⟨w6.heap.size, 0, none⟩)) (by kernel_rfl) rfl
        clear hF hB hK
        go_simp
        exact hC _ _ (bel_refl _) fun _ _ => rfl
      · intro a0 w9 K9 hF hB hK hC
        obtain ⟨v89, e89, z89⟩ := dep hK 0 (g := .data) (j := 5) (k := 89) rfl rfl rfl
        have z89 : v89 = .pointer (some ⟨w6.heap.size, 1, none⟩) := z89
        subst z89
        have x9 : w9.cell? ⟨w6.heap.size, 1, none⟩ = some (.string (dec m)) := (VG.out.below hB VG.out.lt).cell 1
        clear hF hB hK
        go_simp
        exact hC _ _ (bel_refl _) fun _ _ => rfl
      · intro a0 w9 K9 hF hB hK hC
        have b9 := hF.base (k := 9) (v := .pointer (some ⟨w4.heap.size, 0, none⟩)) (by kernel_rfl) rfl
        clear hF hB hK
        go_simp
        exact hC _ _ (bel_refl _) fun _ _ => rfl
      · intro a0 w9 K9 hF hB hK hC
        obtain ⟨v91, e91, z91⟩ := dep hK 0 (g := .data) (j := 7) (k := 91) rfl rfl rfl
        have z91 : v91 = .pointer (some ⟨w4.heap.size, 2, none⟩) := z91
        subst z91
        have x9 : w9.cell? ⟨w4.heap.size, 2, none⟩ = some (.string (dec d0)) := (VF.out.below hB VF.out.lt).cell 2
        clear hF hB hK
        go_simp
        exact hC _ _ (bel_refl _) fun _ _ => rfl
      · intro a0 w9 K9 hF hB hK hC
        obtain ⟨v90, e90, z90⟩ := dep hK 0 (g := .data) (j := 6) (k := 90) rfl rfl rfl
        have z90 : v90 = .string (dec m) := z90
        subst z90
        obtain ⟨v92, e92, z92⟩ := dep hK 1 (g := .data) (j := 8) (k := 92) rfl rfl rfl
        have z92 : v92 = .string (dec d0) := z92
        subst z92
        have HB9 := Lib.hid hB
        clear hF hB hK
        go_simp
        refine (refMul_any m d0 _ (by have := decL_top HP.out.1; omega) (by have := decL_top HQ.out.2.1; omega)).mono ?_
        rintro e w7 ⟨rfl, hbl⟩
        rw [HXY.out.2]
        exact hC _ _ hbl fun _ _ => rfl
      · intro a0 w9 K9 hF hB hK hC
        obtain ⟨v88, e88, z88⟩ := dep hK 0 (g := .data) (j := 4) (k := 88) rfl rfl rfl
        have z88 : v88 = .string (dec x) := z88
        subst z88
        clear hF hB hK
        go_simp
        exact hC _ _ (bel_refl _) fun _ _ => rfl
      · intro a0 w9 K9 hF hB hK hC
        obtain ⟨v93, e93, z93⟩ := dep hK 0 (g := .data) (j := 9) (k := 93) rfl rfl rfl
        have z93 : v93 = .string (dec y) := z93
        subst z93
        clear hF hB hK
        go_simp
        exact hC _ _ (bel_refl _) fun _ _ => rfl
      case fin =>
        intro a0 w9 hF hB hK
        have b5 := hF.base (k := 5) (v := .int .i64 (-cmpI (x : Int) (y : Int))) (by kernel_rfl) rfl
        have b6 := hF.base (k := 6) (v := .int .i64 0) (by kernel_rfl) rfl
        have b9 := hF.base (k := 9) (v := .pointer (some ⟨w4.heap.size, 0, none⟩)) (by kernel_rfl) rfl
        have b10 := hF.base (k := 10) (v := .pointer (some ⟨w6.heap.size, 0, none⟩)) (by kernel_rfl) rfl
        have hsz := hF.size
        have hdf := hF.defers
        clear hF
        obtain ⟨v11, e11, z11⟩ := known hK 10 (k := 11) (by decide) rfl
        have z11 : v11 = .string (dec x) := z11
        subst z11
        obtain ⟨v12, e12, z12⟩ := known hK 11 (k := 12) (by decide) rfl
        have z12 : v12 = .string (dec y) := z12
        subst z12
        clear hK
        obtain ⟨⟨l0⟩, df⟩ := a0
        have hs0 : l0.length = 131 := hsz
        clear hsz
        replace hdf : df = _ := hdf
        subst hdf
        obtain ⟨u, rfl⟩ := lits_131 hs0
        clear hs0
        have q5 : u 5 = _ := Option.some.inj b5
        clear b5
        have q6 : u 6 = _ := Option.some.inj b6
        clear b6
        have q9 : u 9 = _ := Option.some.inj b9
        clear b9
        have q10 : u 10 = _ := Option.some.inj b10
        clear b10
        have q11 : u 11 = _ := Option.some.inj e11
        clear e11
        have q12 : u 12 = _ := Option.some.inj e12
        clear e12
        rw [q5, q6, q9, q10, q11, q12]
        clear q5 q6 q9 q10 q11 q12
        have hbl := hB; clear hB
        replace R1 := Lib.hid (R1.out.below hbl)
        replace R2 := Lib.hid (R2.out.below hbl)
        replace R3 := Lib.hid (R3.out.below hbl)
        replace R4 := Lib.hid (R4.out.below hbl)
        replace Rx := Lib.hid (Rx.out.below hbl)
        replace HNx := Lib.hid (HNx.out.below hbl)
        replace Ry := Lib.hid (Ry.out.below hbl)
        replace HNy := Lib.hid (HNy.out.below hbl)
        replace CX := Lib.hid (CX.out.below hbl CX.out.lt)
        replace CY := Lib.hid (CY.out.below hbl CY.out.lt)
        replace VX := Lib.hid (VX.out.below hbl VX.out.lt)
        replace VF := Lib.hid (VF.out.below hbl VF.out.lt)
        replace VG := Lib.hid (VG.out.below hbl VG.out.lt)
        replace HW := Lib.hid (bel_trans HW.out hbl); clear hbl
        clear CX0 CX1 CX2 CY0 CY1 CY2 VX0 VX1 VX2 VF0 VF1 VF2 VF3 VG0 VG1 VG2 VG3
        have CX0 : w9.cell? ⟨w.heap.size, 0, none⟩ = some (.bool true) := CX.out.cell 0
        have CX1 : w9.cell? ⟨w.heap.size, 1, none⟩ = some (.slice A (limbs n).length c) := CX.out.cell 1
        have CX2 : w9.cell? ⟨w.heap.size, 2, none⟩ = some (.slice B (limbs d0).length d) := CX.out.cell 2
        have CY0 : w9.cell? ⟨w.heap.size + 1, 0, none⟩ = some (.bool true) := CY.out.cell 0
        have CY1 : w9.cell? ⟨w.heap.size + 1, 1, none⟩ = some (.slice A' (limbs m).length c') := CY.out.cell 1
        have CY2 : w9.cell? ⟨w.heap.size + 1, 2, none⟩ = some (.slice B' (limbs f0).length d') := CY.out.cell 2
        have VX0 : w9.cell? ⟨w2.heap.size, 0, none⟩ = some (.bool t.s) := VX.out.cell 0
        have VX1 : w9.cell? ⟨w2.heap.size, 1, none⟩ = some (.slice Ax (limbs t.n).length cx) := VX.out.cell 1
        have VX2 : w9.cell? ⟨w2.heap.size, 2, none⟩ = some (.slice Ay (limbs t.d).length cy) := VX.out.cell 2
        have VF0 : w9.cell? ⟨w4.heap.size, 0, none⟩ = some (.bool true) := VF.out.cell 0
        have VF1 : w9.cell? ⟨w4.heap.size, 1, none⟩ = some (.string (dec n)) := VF.out.cell 1
        have VF2 : w9.cell? ⟨w4.heap.size, 2, none⟩ = some (.string (dec d0)) := VF.out.cell 2
        have VF3 : w9.cell? ⟨w4.heap.size, 3, none⟩ = some (.bool false) := VF.out.cell 3
        have VG0 : w9.cell? ⟨w6.heap.size, 0, none⟩ = some (.bool true) := VG.out.cell 0
        have VG1 : w9.cell? ⟨w6.heap.size, 1, none⟩ = some (.string (dec m)) := VG.out.cell 1
        have VG2 : w9.cell? ⟨w6.heap.size, 2, none⟩ = some (.string (dec f0)) := VG.out.cell 2
        have VG3 : w9.cell? ⟨w6.heap.size, 3, none⟩ = some (.bool false) := VG.out.cell 3
        refine wpList_nil ?_
        go_wp2_with fail
        refine (refOver_any x _).mono ?_
        rintro e w7 ⟨rfl, hbl⟩
        replace R1 := Lib.hid (R1.out.below hbl)
        replace R2 := Lib.hid (R2.out.below hbl)
        replace R3 := Lib.hid (R3.out.below hbl)
        replace R4 := Lib.hid (R4.out.below hbl)
        replace Rx := Lib.hid (Rx.out.below hbl)
        replace HNx := Lib.hid (HNx.out.below hbl)
        replace Ry := Lib.hid (Ry.out.below hbl)
        replace HNy := Lib.hid (HNy.out.below hbl)
        replace CX := Lib.hid (CX.out.below hbl CX.out.lt)
        replace CY := Lib.hid (CY.out.below hbl CY.out.lt)
        replace VX := Lib.hid (VX.out.below hbl VX.out.lt)
        replace VF := Lib.hid (VF.out.below hbl VF.out.lt)
        replace VG := Lib.hid (VG.out.below hbl VG.out.lt)
        replace HW := Lib.hid (bel_trans HW.out hbl); clear hbl
        clear CX0 CX1 CX2 CY0 CY1 CY2 VX0 VX1 VX2 VF0 VF1 VF2 VF3 VG0 VG1 VG2 VG3
        have CX0 : w7.cell? ⟨w.heap.size, 0, none⟩ = some (.bool true) := CX.out.cell 0
        have CX1 : w7.cell? ⟨w.heap.size, 1, none⟩ = some (.slice A (limbs n).length c) := CX.out.cell 1
        have CX2 : w7.cell? ⟨w.heap.size, 2, none⟩ = some (.slice B (limbs d0).length d) := CX.out.cell 2
        have CY0 : w7.cell? ⟨w.heap.size + 1, 0, none⟩ = some (.bool true) := CY.out.cell 0
        have CY1 : w7.cell? ⟨w.heap.size + 1, 1, none⟩ = some (.slice A' (limbs m).length c') := CY.out.cell 1
        have CY2 : w7.cell? ⟨w.heap.size + 1, 2, none⟩ = some (.slice B' (limbs f0).length d') := CY.out.cell 2
        have VX0 : w7.cell? ⟨w2.heap.size, 0, none⟩ = some (.bool t.s) := VX.out.cell 0
        have VX1 : w7.cell? ⟨w2.heap.size, 1, none⟩ = some (.slice Ax (limbs t.n).length cx) := VX.out.cell 1
        have VX2 : w7.cell? ⟨w2.heap.size, 2, none⟩ = some (.slice Ay (limbs t.d).length cy) := VX.out.cell 2
        have VF0 : w7.cell? ⟨w4.heap.size, 0, none⟩ = some (.bool true) := VF.out.cell 0
        have VF1 : w7.cell? ⟨w4.heap.size, 1, none⟩ = some (.string (dec n)) := VF.out.cell 1
        have VF2 : w7.cell? ⟨w4.heap.size, 2, none⟩ = some (.string (dec d0)) := VF.out.cell 2
        have VF3 : w7.cell? ⟨w4.heap.size, 3, none⟩ = some (.bool false) := VF.out.cell 3
        have VG0 : w7.cell? ⟨w6.heap.size, 0, none⟩ = some (.bool true) := VG.out.cell 0
        have VG1 : w7.cell? ⟨w6.heap.size, 1, none⟩ = some (.string (dec m)) := VG.out.cell 1
        have VG2 : w7.cell? ⟨w6.heap.size, 2, none⟩ = some (.string (dec f0)) := VG.out.cell 2
        have VG3 : w7.cell? ⟨w6.heap.size, 3, none⟩ = some (.bool false) := VG.out.cell 3
        rw [HO.out]
        go_wp2_with fail
        refine (refOver_any y _).mono ?_
        rintro e w8 ⟨rfl, hbl⟩
        replace R1 := Lib.hid (R1.out.below hbl)
        replace R2 := Lib.hid (R2.out.below hbl)
        replace R3 := Lib.hid (R3.out.below hbl)
        replace R4 := Lib.hid (R4.out.below hbl)
        replace Rx := Lib.hid (Rx.out.below hbl)
        replace HNx := Lib.hid (HNx.out.below hbl)
        replace Ry := Lib.hid (Ry.out.below hbl)
        replace HNy := Lib.hid (HNy.out.below hbl)
        replace CX := Lib.hid (CX.out.below hbl CX.out.lt)
        replace CY := Lib.hid (CY.out.below hbl CY.out.lt)
        replace VX := Lib.hid (VX.out.below hbl VX.out.lt)
        replace VF := Lib.hid (VF.out.below hbl VF.out.lt)
        replace VG := Lib.hid (VG.out.below hbl VG.out.lt)
        replace HW := Lib.hid (bel_trans HW.out hbl); clear hbl
        clear CX0 CX1 CX2 CY0 CY1 CY2 VX0 VX1 VX2 VF0 VF1 VF2 VF3 VG0 VG1 VG2 VG3
        have CX0 : w8.cell? ⟨w.heap.size, 0, none⟩ = some (.bool true) := CX.out.cell 0
        have CX1 : w8.cell? ⟨w.heap.size, 1, none⟩ = some (.slice A (limbs n).length c) := CX.out.cell 1
        have CX2 : w8.cell? ⟨w.heap.size, 2, none⟩ = some (.slice B (limbs d0).length d) := CX.out.cell 2
        have CY0 : w8.cell? ⟨w.heap.size + 1, 0, none⟩ = some (.bool true) := CY.out.cell 0
        have CY1 : w8.cell? ⟨w.heap.size + 1, 1, none⟩ = some (.slice A' (limbs m).length c') := CY.out.cell 1
        have CY2 : w8.cell? ⟨w.heap.size + 1, 2, none⟩ = some (.slice B' (limbs f0).length d') := CY.out.cell 2
        have VX0 : w8.cell? ⟨w2.heap.size, 0, none⟩ = some (.bool t.s) := VX.out.cell 0
        have VX1 : w8.cell? ⟨w2.heap.size, 1, none⟩ = some (.slice Ax (limbs t.n).length cx) := VX.out.cell 1
        have VX2 : w8.cell? ⟨w2.heap.size, 2, none⟩ = some (.slice Ay (limbs t.d).length cy) := VX.out.cell 2
        have VF0 : w8.cell? ⟨w4.heap.size, 0, none⟩ = some (.bool true) := VF.out.cell 0
        have VF1 : w8.cell? ⟨w4.heap.size, 1, none⟩ = some (.string (dec n)) := VF.out.cell 1
        have VF2 : w8.cell? ⟨w4.heap.size, 2, none⟩ = some (.string (dec d0)) := VF.out.cell 2
        have VF3 : w8.cell? ⟨w4.heap.size, 3, none⟩ = some (.bool false) := VF.out.cell 3
        have VG0 : w8.cell? ⟨w6.heap.size, 0, none⟩ = some (.bool true) := VG.out.cell 0
        have VG1 : w8.cell? ⟨w6.heap.size, 1, none⟩ = some (.string (dec m)) := VG.out.cell 1
        have VG2 : w8.cell? ⟨w6.heap.size, 2, none⟩ = some (.string (dec f0)) := VG.out.cell 2
        have VG3 : w8.cell? ⟨w6.heap.size, 3, none⟩ = some (.bool false) := VG.out.cell 3
        rw [HO2.out]
        go_wp2_with fail
        refine (refCmp_bb x y _).mono ?_
        rintro e w9 ⟨rfl, hbl⟩
        replace R1 := Lib.hid (R1.out.below hbl)
        replace R2 := Lib.hid (R2.out.below hbl)
        replace R3 := Lib.hid (R3.out.below hbl)
        replace R4 := Lib.hid (R4.out.below hbl)
        replace Rx := Lib.hid (Rx.out.below hbl)
        replace HNx := Lib.hid (HNx.out.below hbl)
        replace Ry := Lib.hid (Ry.out.below hbl)
        replace HNy := Lib.hid (HNy.out.below hbl)
        replace CX := Lib.hid (CX.out.below hbl CX.out.lt)
        replace CY := Lib.hid (CY.out.below hbl CY.out.lt)
        replace VX := Lib.hid (VX.out.below hbl VX.out.lt)
        replace VF := Lib.hid (VF.out.below hbl VF.out.lt)
        replace VG := Lib.hid (VG.out.below hbl VG.out.lt)
        replace HW := Lib.hid (bel_trans HW.out hbl); clear hbl
        clear CX0 CX1 CX2 CY0 CY1 CY2 VX0 VX1 VX2 VF0 VF1 VF2 VF3 VG0 VG1 VG2 VG3
        have CX0 : w9.cell? ⟨w.heap.size, 0, none⟩ = some (.bool true) := CX.out.cell 0
        have CX1 : w9.cell? ⟨w.heap.size, 1, none⟩ = some (.slice A (limbs n).length c) := CX.out.cell 1
        have CX2 : w9.cell? ⟨w.heap.size, 2, none⟩ = some (.slice B (limbs d0).length d) := CX.out.cell 2
        have CY0 : w9.cell? ⟨w.heap.size + 1, 0, none⟩ = some (.bool true) := CY.out.cell 0
        have CY1 : w9.cell? ⟨w.heap.size + 1, 1, none⟩ = some (.slice A' (limbs m).length c') := CY.out.cell 1
        have CY2 : w9.cell? ⟨w.heap.size + 1, 2, none⟩ = some (.slice B' (limbs f0).length d') := CY.out.cell 2
        have VX0 : w9.cell? ⟨w2.heap.size, 0, none⟩ = some (.bool t.s) := VX.out.cell 0
        have VX1 : w9.cell? ⟨w2.heap.size, 1, none⟩ = some (.slice Ax (limbs t.n).length cx) := VX.out.cell 1
        have VX2 : w9.cell? ⟨w2.heap.size, 2, none⟩ = some (.slice Ay (limbs t.d).length cy) := VX.out.cell 2
        have VF0 : w9.cell? ⟨w4.heap.size, 0, none⟩ = some (.bool true) := VF.out.cell 0
        have VF1 : w9.cell? ⟨w4.heap.size, 1, none⟩ = some (.string (dec n)) := VF.out.cell 1
        have VF2 : w9.cell? ⟨w4.heap.size, 2, none⟩ = some (.string (dec d0)) := VF.out.cell 2
        have VF3 : w9.cell? ⟨w4.heap.size, 3, none⟩ = some (.bool false) := VF.out.cell 3
        have VG0 : w9.cell? ⟨w6.heap.size, 0, none⟩ = some (.bool true) := VG.out.cell 0
        have VG1 : w9.cell? ⟨w6.heap.size, 1, none⟩ = some (.string (dec m)) := VG.out.cell 1
        have VG2 : w9.cell? ⟨w6.heap.size, 2, none⟩ = some (.string (dec f0)) := VG.out.cell 2
        have VG3 : w9.cell? ⟨w6.heap.size, 3, none⟩ = some (.bool false) := VG.out.cell 3
        go_wp2
        go_ret
        exact ⟨rfl, HW.out⟩

set_option maxRecDepth 100000 in
set_option maxHeartbeats 1000000 in
theorem orders_tf (s s' : Bool) (A B A' B' : Option Addr) (c d c' d' : Nat) (x0 y0 x0' y0' : List Nat) (n d0 : Nat) (m f0 : Nat) (w : World) (h1 : RdL w A x0) (h2 : RdL w B y0) (h3 : RdL w A' x0') (h4 : RdL w B' y0') (k1 : x0.length ≤ c) (k2 : y0.length ≤ d) (k3 : x0'.length ≤ c') (k4 : y0'.length ≤ d') (m1 : Lim x0) (m2 : Lim y0) (m3 : Lim x0') (m4 : Lim y0') (hs1 : s = true) (hs2 : s' = false) (hn : n < Top) (hd : d0 < Top) (hq : QR ⟨s, n, d0⟩) (hm : m < Top) (hf : f0 < Top) (hp : QR ⟨s', m, f0⟩) (ho : n * f0 < Top) (ho2 : m * d0 < Top) (e1 : few x0 = (limbs n)) (e2 : few y0 = (limbs d0)) (e3 : few x0' = (limbs m)) (e4 : few y0' = (limbs f0)) :
    Calls Try.prog 6 #[.agg #[.bool s, .slice A x0.length c, .slice B y0.length d], .agg #[.bool s', .slice A' x0'.length c', .slice B' y0'.length d']] w (RetT w) := by
  subst hs1 hs2
  have HR := Lib.hid ((rightB_q (s := true) hn hd).2 hq)
  have HQ := Lib.hid (And.intro hn (And.intro hd hq)); clear hn hd hq
  have HRB := Lib.hid ((rightB_q (s := false) hm hf).2 hp)
  have HP := Lib.hid (And.intro hm (And.intro hf hp)); clear hm hf hp
  obtain ⟨t, ht⟩ : ∃ t, redQ true (n / d0) 1 = t := ⟨_, rfl⟩
  have HT := Lib.hid ht; clear ht
  have HTF := Lib.hid (redQ_fit (lt_top (Nat.div_le_self n d0) HQ.out.1) (small_top (by decide)) (by decide) HT.out)
  obtain ⟨x, hx⟩ : ∃ x, n * f0 = x := ⟨_, rfl⟩
  obtain ⟨y, hy⟩ : ∃ y, m * d0 = y := ⟨_, rfl⟩
  rw [hx] at ho
  rw [hy] at ho2
  have HXY := Lib.hid (And.intro hx hy); clear hx hy
  have HO := Lib.hid (show decide (Top ≤ x) = false by exact decide_eq_false (by omega))
  have HO2 := Lib.hid (show decide (Top ≤ y) = false by exact decide_eq_false (by omega))
  have HF := Lib.hid ho; clear ho
  have HF2 := Lib.hid ho2; clear ho2
  have R1 := Lib.hid (show RdL w A (limbs n) by rw [← e1]; exact h1.take 18); clear h1
  have R2 := Lib.hid (show RdL w B (limbs d0) by rw [← e2]; exact h2.take 18); clear h2
  have R3 := Lib.hid (show RdL w A' (limbs m) by rw [← e3]; exact h3.take 18); clear h3
  have R4 := Lib.hid (show RdL w B' (limbs f0) by rw [← e4]; exact h4.take 18); clear h4
  have L18 := Lib.hid (show (limbs n).length ≤ 18 ∧ (limbs d0).length ≤ 18 ∧ (limbs m).length ≤ 18 ∧ (limbs f0).length ≤ 18 by rw [← e1, ← e2, ← e3, ← e4]; exact ⟨few_le _, few_le _, few_le _, few_le _⟩)
  have KC := Lib.hid (show (limbs n).length ≤ c ∧ (limbs d0).length ≤ d ∧ (limbs m).length ≤ c' ∧ (limbs f0).length ≤ d' by rw [← e1, ← e2, ← e3, ← e4]; exact ⟨Nat.le_trans (few_short _) k1, Nat.le_trans (few_short _) k2, Nat.le_trans (few_short _) k3, Nat.le_trans (few_short _) k4⟩)
  have M := Lib.hid (show Lim (limbs n) ∧ Lim (limbs d0) ∧ Lim (limbs m) ∧ Lim (limbs f0) by rw [← e1, ← e2, ← e3, ← e4]; exact ⟨few_lim m1, few_lim m2, few_lim m3, few_lim m4⟩); clear m1 m2 m3 m4
  have F := Lib.hid (And.intro (And.intro k1 (And.intro k2 (And.intro e1 e2))) (And.intro k3 (And.intro k4 (And.intro e3 e4)))); clear k1 k2 k3 k4 e1 e2 e3 e4
  obtain ⟨wa, hwa⟩ : ∃ wa, wa = (w.alloc (.cells #[.bool true, .slice A x0.length c, .slice B y0.length d] 25)).alloc (.cells #[.bool false, .slice A' x0'.length c', .slice B' y0'.length d'] 25) := ⟨_, rfl⟩
  have hbl : Below w.heap.size w wa := by rw [hwa]; exact bel_alloc (bel_alloc (bel_refl _) _) _
  have CX : Blk wa (w.heap.size) 25 #[.bool true, .slice A x0.length c, .slice B y0.length d] := by
    have hz := Blk.new (w) 25 #[.bool true, .slice A x0.length c, .slice B y0.length d]
    rw [hwa]
    exact (hz.alloc _)
  have CY : Blk wa (w.heap.size + 1) 25 #[.bool false, .slice A' x0'.length c', .slice B' y0'.length d'] := by
    have hz := Blk.new (w.alloc (.cells #[.bool true, .slice A x0.length c, .slice B y0.length d] 25)) 25 #[.bool false, .slice A' x0'.length c', .slice B' y0'.length d']
    rw [World.size_alloc] at hz
    rw [hwa]
    exact hz
  replace R1 := Lib.hid (R1.out.below hbl)
  replace R2 := Lib.hid (R2.out.below hbl)
  replace R3 := Lib.hid (R3.out.below hbl)
  replace R4 := Lib.hid (R4.out.below hbl)
  have HW := Lib.hid hbl; clear hbl
  replace CX := Lib.hid CX
  replace CY := Lib.hid CY
  go_enter Try.func6, Try.ntmps6
  go_wp2_with fail
  rw [← hwa]
  clear hwa
  refine wp_region_typed 4 (TOf [VIs (.agg #[.bool true, .slice A x0.length c, .slice B y0.length d]),
      VIs (.agg #[.bool true, .slice A (limbs n).length c, .slice B (limbs d0).length d]),
      VIs (.agg #[.bool false, .slice A' x0'.length c', .slice B' y0'.length d']),
      VIs (.agg #[.bool false, .slice A' (limbs m).length c', .slice B' (limbs f0).length d'])]) (by kernel_rfl) (by kernel_rfl) (by kernel_rfl) (LiftAll.at_ (.cons (VIs.lift _) (.cons (VIs.lift _) (.cons (VIs.lift _) (.cons (VIs.lift _) .nil))))) (steps_all (steps_cons ?_ (steps_cons ?_ (steps_cons ?_ (steps_cons ?_ steps_zero))))) ?fin
  · intro a0 w9 K9 hF hB hK hC
    have b2 := hF.base (k := 2) (v := .pointer (some ⟨w.heap.size, 0, none⟩)) (by kernel_rfl) rfl
    have x90 : w9.cell? ⟨w.heap.size, 0, none⟩ = some (.bool true) := (CX.out.below hB CX.out.lt).cell 0
    have x91 : w9.cell? ⟨w.heap.size, 1, none⟩ = some (.slice A x0.length c) := (CX.out.below hB CX.out.lt).cell 1
    have x92 : w9.cell? ⟨w.heap.size, 2, none⟩ = some (.slice B y0.length d) := (CX.out.below hB CX.out.lt).cell 2
    clear hF hB hK
    go_simp
    exact hC _ _ (bel_refl _) fun _ _ => rfl
  · intro a0 w9 K9 hF hB hK hC
    obtain ⟨v14, e14, z14⟩ := dep hK 0 (g := .data) (j := 0) (k := 14) rfl rfl rfl
    have z14 : v14 = .agg #[.bool true, .slice A x0.length c, .slice B y0.length d] := z14
    subst z14
    have HB9 := Lib.hid hB
    clear hF hB hK
    go_simp
    refine (fewQ_is true A B c d x0 y0 (limbs n) (limbs d0) _ F.out.1.1 F.out.1.2.1 F.out.1.2.2.1 F.out.1.2.2.2).mono ?_
    rintro e w7 ⟨rfl, hbl⟩
    exact hC _ _ hbl fun _ _ => rfl
  · intro a0 w9 K9 hF hB hK hC
    have b3 := hF.base (k := 3) (v := .pointer (some ⟨w.heap.size + 1, 0, none⟩)) (by kernel_rfl) rfl
    have x90 : w9.cell? ⟨w.heap.size + 1, 0, none⟩ = some (.bool false) := (CY.out.below hB CY.out.lt).cell 0
    have x91 : w9.cell? ⟨w.heap.size + 1, 1, none⟩ = some (.slice A' x0'.length c') := (CY.out.below hB CY.out.lt).cell 1
    have x92 : w9.cell? ⟨w.heap.size + 1, 2, none⟩ = some (.slice B' y0'.length d') := (CY.out.below hB CY.out.lt).cell 2
    clear hF hB hK
    go_simp
    exact hC _ _ (bel_refl _) fun _ _ => rfl
  · intro a0 w9 K9 hF hB hK hC
    obtain ⟨v16, e16, z16⟩ := dep hK 0 (g := .data) (j := 2) (k := 16) rfl rfl rfl
    have z16 : v16 = .agg #[.bool false, .slice A' x0'.length c', .slice B' y0'.length d'] := z16
    subst z16
    have HB9 := Lib.hid hB
    clear hF hB hK
    go_simp
    refine (fewQ_is false A' B' c' d' x0' y0' (limbs m) (limbs f0) _ F.out.2.1 F.out.2.2.1 F.out.2.2.2.1 F.out.2.2.2.2).mono ?_
    rintro e w7 ⟨rfl, hbl⟩
    exact hC _ _ hbl fun _ _ => rfl
  case fin =>
    intro a0 w9 hF hB hK
    have b2 := hF.base (k := 2) (v := .pointer (some ⟨w.heap.size, 0, none⟩)) (by kernel_rfl) rfl
    have b3 := hF.base (k := 3) (v := .pointer (some ⟨w.heap.size + 1, 0, none⟩)) (by kernel_rfl) rfl
    have hsz := hF.size
    have hdf := hF.defers
    clear hF
    obtain ⟨v15, e15, z15⟩ := known hK 1 (k := 15) (by decide) rfl
    have z15 : v15 = .agg #[.bool true, .slice A (limbs n).length c, .slice B (limbs d0).length d] := z15
    subst z15
    obtain ⟨v17, e17, z17⟩ := known hK 3 (k := 17) (by decide) rfl
    have z17 : v17 = .agg #[.bool false, .slice A' (limbs m).length c', .slice B' (limbs f0).length d'] := z17
    subst z17
    clear hK
    obtain ⟨⟨l0⟩, df⟩ := a0
    have hs0 : l0.length = 131 := hsz
    clear hsz
    replace hdf : df = _ := hdf
    subst hdf
    obtain ⟨u, rfl⟩ := lits_131 hs0
    clear hs0
    have q2 : u 2 = _ := Option.some.inj b2
    clear b2
    have q3 : u 3 = _ := Option.some.inj b3
    clear b3
    have q15 : u 15 = _ := Option.some.inj e15
    clear e15
    have q17 : u 17 = _ := Option.some.inj e17
    clear e17
    rw [q2, q3, q15, q17]
    clear q2 q3 q15 q17
    have hbl := hB; clear hB
    replace R1 := Lib.hid (R1.out.below hbl)
    replace R2 := Lib.hid (R2.out.below hbl)
    replace R3 := Lib.hid (R3.out.below hbl)
    replace R4 := Lib.hid (R4.out.below hbl)
    replace CX := Lib.hid (CX.out.below hbl CX.out.lt)
    replace CY := Lib.hid (CY.out.below hbl CY.out.lt)
    replace HW := Lib.hid (bel_trans HW.out hbl); clear hbl
    simp only [List.drop_succ_cons, List.drop_zero]
    have pd0 := CX.out.cell 0
    have pf0 := CX.out.frozen 0
    have pd1 := CX.out.cell 1
    have pf1 := CX.out.frozen 1
    have pd2 := CX.out.cell 2
    have pf2 := CX.out.frozen 2
    have qd0 := CY.out.cell 0
    have qf0 := CY.out.frozen 0
    have qd1 := CY.out.cell 1
    have qf1 := CY.out.frozen 1
    have qd2 := CY.out.cell 2
    have qf2 := CY.out.frozen 2
    go_upto_region 2 with fail
    clear pd0 pf0 pd1 pf1 pd2 pf2 qd0 qf0 qd1 qf1 qd2 qf2
    obtain ⟨wf, hwf⟩ : ∃ wf, wf = ((((((w9.setCell ⟨w.heap.size, 0, none⟩ (.bool true)).setCell ⟨w.heap.size, 1, none⟩ (.slice A (limbs n).length c)).setCell ⟨w.heap.size, 2, none⟩ (.slice B (limbs d0).length d)).setCell ⟨w.heap.size + 1, 0, none⟩ (.bool false)).setCell ⟨w.heap.size + 1, 1, none⟩ (.slice A' (limbs m).length c')).setCell ⟨w.heap.size + 1, 2, none⟩ (.slice B' (limbs f0).length d')) := ⟨_, rfl⟩
    rw [← hwf]
    replace R1 := Lib.hid (show RdL wf _ _ by rw [hwf]; exact RdL.set3 ((((CY.out).far (p := ⟨w.heap.size, 0, none⟩) (by simp) _).far (p := ⟨w.heap.size, 1, none⟩) (by simp) _).far (p := ⟨w.heap.size, 2, none⟩) (by simp) _) (RdL.set3 (CX.out) (R1.out) _ _ _) _ _ _)
    replace R2 := Lib.hid (show RdL wf _ _ by rw [hwf]; exact RdL.set3 ((((CY.out).far (p := ⟨w.heap.size, 0, none⟩) (by simp) _).far (p := ⟨w.heap.size, 1, none⟩) (by simp) _).far (p := ⟨w.heap.size, 2, none⟩) (by simp) _) (RdL.set3 (CX.out) (R2.out) _ _ _) _ _ _)
    replace R3 := Lib.hid (show RdL wf _ _ by rw [hwf]; exact RdL.set3 ((((CY.out).far (p := ⟨w.heap.size, 0, none⟩) (by simp) _).far (p := ⟨w.heap.size, 1, none⟩) (by simp) _).far (p := ⟨w.heap.size, 2, none⟩) (by simp) _) (RdL.set3 (CX.out) (R3.out) _ _ _) _ _ _)
    replace R4 := Lib.hid (show RdL wf _ _ by rw [hwf]; exact RdL.set3 ((((CY.out).far (p := ⟨w.heap.size, 0, none⟩) (by simp) _).far (p := ⟨w.heap.size, 1, none⟩) (by simp) _).far (p := ⟨w.heap.size, 2, none⟩) (by simp) _) (RdL.set3 (CX.out) (R4.out) _ _ _) _ _ _)
    have CX_ := Lib.hid (show Blk wf (w.heap.size) 25 #[.bool true, .slice A (limbs n).length c, .slice B (limbs d0).length d] by rw [hwf]; exact ((((((CX.out).put 0 (.bool true)).put 1 (.slice A (limbs n).length c)).put 2 (.slice B (limbs d0).length d)).far (p := ⟨w.heap.size + 1, 0, none⟩) (by simp) _).far (p := ⟨w.heap.size + 1, 1, none⟩) (by simp) _).far (p := ⟨w.heap.size + 1, 2, none⟩) (by simp) _)
    have CY_ := Lib.hid (show Blk wf (w.heap.size + 1) 25 #[.bool false, .slice A' (limbs m).length c', .slice B' (limbs f0).length d'] by rw [hwf]; exact ((((((CY.out).far (p := ⟨w.heap.size, 0, none⟩) (by simp) _).far (p := ⟨w.heap.size, 1, none⟩) (by simp) _).far (p := ⟨w.heap.size, 2, none⟩) (by simp) _).put 0 (.bool false)).put 1 (.slice A' (limbs m).length c')).put 2 (.slice B' (limbs f0).length d'))
    replace CX := CX_; clear CX_
    replace CY := CY_; clear CY_
    replace HW := Lib.hid (show Below w.heap.size w wf by rw [hwf]; exact bel_set (p := ⟨w.heap.size + 1, 2, none⟩) (bel_set (p := ⟨w.heap.size + 1, 1, none⟩) (bel_set (p := ⟨w.heap.size + 1, 0, none⟩) (bel_set (p := ⟨w.heap.size, 2, none⟩) (bel_set (p := ⟨w.heap.size, 1, none⟩) (bel_set (p := ⟨w.heap.size, 0, none⟩) (HW.out) (by show w.heap.size ≤ w.heap.size; omega) _) (by show w.heap.size ≤ w.heap.size; omega) _) (by show w.heap.size ≤ w.heap.size; omega) _) (by show w.heap.size ≤ w.heap.size + 1; omega) _) (by show w.heap.size ≤ w.heap.size + 1; omega) _) (by show w.heap.size ≤ w.heap.size + 1; omega) _)
    clear hwf
    have CX0 : wf.cell? ⟨w.heap.size, 0, none⟩ = some (.bool true) := CX.out.cell 0
    have CX1 : wf.cell? ⟨w.heap.size, 1, none⟩ = some (.slice A (limbs n).length c) := CX.out.cell 1
    have CX2 : wf.cell? ⟨w.heap.size, 2, none⟩ = some (.slice B (limbs d0).length d) := CX.out.cell 2
    have CY0 : wf.cell? ⟨w.heap.size + 1, 0, none⟩ = some (.bool false) := CY.out.cell 0
    have CY1 : wf.cell? ⟨w.heap.size + 1, 1, none⟩ = some (.slice A' (limbs m).length c') := CY.out.cell 1
    have CY2 : wf.cell? ⟨w.heap.size + 1, 2, none⟩ = some (.slice B' (limbs f0).length d') := CY.out.cell 2
    go_wp2_with fail
    refine (qcmp_is (v := -1) A B A' B' c d c' d' ⟨true, n, d0⟩ ⟨false, m, f0⟩ _ R1.out R2.out R3.out R4.out KC.out.1 KC.out.2.1 KC.out.2.2.1 KC.out.2.2.2 HQ.out.1 HQ.out.2.1 HP.out.1 HP.out.2.1 HQ.out.2.2 HP.out.2.2 (by show n * f0 < Top ∧ m * d0 < Top; rw [HXY.out.1, HXY.out.2]; exact ⟨HF.out, HF2.out⟩) (by show cmpS true false (n * f0) (m * d0) = _; rw [HXY.out.1, HXY.out.2]; exact cmpS_tf x y)).mono ?_
    rintro e w1 ⟨rfl, hbl⟩
    replace R1 := Lib.hid (R1.out.below hbl)
    replace R2 := Lib.hid (R2.out.below hbl)
    replace R3 := Lib.hid (R3.out.below hbl)
    replace R4 := Lib.hid (R4.out.below hbl)
    replace CX := Lib.hid (CX.out.below hbl CX.out.lt)
    replace CY := Lib.hid (CY.out.below hbl CY.out.lt)
    replace HW := Lib.hid (bel_trans HW.out hbl); clear hbl
    clear CX0 CX1 CX2 CY0 CY1 CY2
    have CX0 : w1.cell? ⟨w.heap.size, 0, none⟩ = some (.bool true) := CX.out.cell 0
    have CX1 : w1.cell? ⟨w.heap.size, 1, none⟩ = some (.slice A (limbs n).length c) := CX.out.cell 1
    have CX2 : w1.cell? ⟨w.heap.size, 2, none⟩ = some (.slice B (limbs d0).length d) := CX.out.cell 2
    have CY0 : w1.cell? ⟨w.heap.size + 1, 0, none⟩ = some (.bool false) := CY.out.cell 0
    have CY1 : w1.cell? ⟨w.heap.size + 1, 1, none⟩ = some (.slice A' (limbs m).length c') := CY.out.cell 1
    have CY2 : w1.cell? ⟨w.heap.size + 1, 2, none⟩ = some (.slice B' (limbs f0).length d') := CY.out.cell 2
    go_wp2_with fail
    refine (trunc_q ⟨true, n, d0⟩ A B c d _ R1.out R2.out KC.out.1 KC.out.2.1 HQ.out.1 HQ.out.2.1 HQ.out.2.2 HT.out).mono ?_
    rintro e w2 ⟨vx, vy, rfl, hnx, hny, hbl⟩
    replace R1 := Lib.hid (R1.out.below hbl)
    replace R2 := Lib.hid (R2.out.below hbl)
    replace R3 := Lib.hid (R3.out.below hbl)
    replace R4 := Lib.hid (R4.out.below hbl)
    replace CX := Lib.hid (CX.out.below hbl CX.out.lt)
    replace CY := Lib.hid (CY.out.below hbl CY.out.lt)
    replace HW := Lib.hid (bel_trans HW.out hbl); clear hbl
    clear CX0 CX1 CX2 CY0 CY1 CY2
    have CX0 : w2.cell? ⟨w.heap.size, 0, none⟩ = some (.bool true) := CX.out.cell 0
    have CX1 : w2.cell? ⟨w.heap.size, 1, none⟩ = some (.slice A (limbs n).length c) := CX.out.cell 1
    have CX2 : w2.cell? ⟨w.heap.size, 2, none⟩ = some (.slice B (limbs d0).length d) := CX.out.cell 2
    have CY0 : w2.cell? ⟨w.heap.size + 1, 0, none⟩ = some (.bool false) := CY.out.cell 0
    have CY1 : w2.cell? ⟨w.heap.size + 1, 1, none⟩ = some (.slice A' (limbs m).length c') := CY.out.cell 1
    have CY2 : w2.cell? ⟨w.heap.size + 1, 2, none⟩ = some (.slice B' (limbs f0).length d') := CY.out.cell 2
    have HNx := Lib.hid hnx; clear hnx
    obtain ⟨Ax, cx, rfl, hcx, hrx⟩ := HNx.out.row
    have Rx := Lib.hid hrx; have HCx := Lib.hid hcx; clear hrx hcx
    have HNy := Lib.hid hny; clear hny
    obtain ⟨Ay, cy, rfl, hcy, hry⟩ := HNy.out.row
    have Ry := Lib.hid hry; have HCy := Lib.hid hcy; clear hry hcy
    go_upto_region 4 with fail
    obtain ⟨wm, hwm⟩ : ∃ wm, wm = w2.alloc (.cells #[.bool t.s, .slice Ax (limbs t.n).length cx, .slice Ay (limbs t.d).length cy] 25) := ⟨_, rfl⟩
    rw [← hwm]
    have hbl : Below w2.heap.size w2 wm := by rw [hwm]; exact bel_alloc (bel_refl _) _
    have VX : Blk wm (w2.heap.size) 25 #[.bool t.s, .slice Ax (limbs t.n).length cx, .slice Ay (limbs t.d).length cy] := by
      have hz := Blk.new (w2) 25 #[.bool t.s, .slice Ax (limbs t.n).length cx, .slice Ay (limbs t.d).length cy]
      rw [hwm]
      exact hz
    clear hwm
    replace R1 := Lib.hid (R1.out.below hbl)
    replace R2 := Lib.hid (R2.out.below hbl)
    replace R3 := Lib.hid (R3.out.below hbl)
    replace R4 := Lib.hid (R4.out.below hbl)
    replace Rx := Lib.hid (Rx.out.below hbl)
    replace HNx := Lib.hid (HNx.out.below hbl)
    replace Ry := Lib.hid (Ry.out.below hbl)
    replace HNy := Lib.hid (HNy.out.below hbl)
    replace CX := Lib.hid (CX.out.below hbl CX.out.lt)
    replace CY := Lib.hid (CY.out.below hbl CY.out.lt)
    replace HW := Lib.hid (bel_trans HW.out hbl); clear hbl
    replace VX := Lib.hid VX
    clear CX0 CX1 CX2 CY0 CY1 CY2
    have CX0 : wm.cell? ⟨w.heap.size, 0, none⟩ = some (.bool true) := CX.out.cell 0
    have CX1 : wm.cell? ⟨w.heap.size, 1, none⟩ = some (.slice A (limbs n).length c) := CX.out.cell 1
    have CX2 : wm.cell? ⟨w.heap.size, 2, none⟩ = some (.slice B (limbs d0).length d) := CX.out.cell 2
    have CY0 : wm.cell? ⟨w.heap.size + 1, 0, none⟩ = some (.bool false) := CY.out.cell 0
    have CY1 : wm.cell? ⟨w.heap.size + 1, 1, none⟩ = some (.slice A' (limbs m).length c') := CY.out.cell 1
    have CY2 : wm.cell? ⟨w.heap.size + 1, 2, none⟩ = some (.slice B' (limbs f0).length d') := CY.out.cell 2
    have VX0 : wm.cell? ⟨w2.heap.size, 0, none⟩ = some (.bool t.s) := VX.out.cell 0
    have VX1 : wm.cell? ⟨w2.heap.size, 1, none⟩ = some (.slice Ax (limbs t.n).length cx) := VX.out.cell 1
    have VX2 : wm.cell? ⟨w2.heap.size, 2, none⟩ = some (.slice Ay (limbs t.d).length cy) := VX.out.cell 2
    go_wp2_with fail
    refine (refRatRight_is true A B c d (limbs n) (limbs d0) _ R1.out R2.out M.out.1 M.out.2.1 L18.out.1 L18.out.2.1 HR.out).mono ?_
    rintro e w3 ⟨rfl, hbl⟩
    replace R1 := Lib.hid (R1.out.below hbl)
    replace R2 := Lib.hid (R2.out.below hbl)
    replace R3 := Lib.hid (R3.out.below hbl)
    replace R4 := Lib.hid (R4.out.below hbl)
    replace Rx := Lib.hid (Rx.out.below hbl)
    replace HNx := Lib.hid (HNx.out.below hbl)
    replace Ry := Lib.hid (Ry.out.below hbl)
    replace HNy := Lib.hid (HNy.out.below hbl)
    replace CX := Lib.hid (CX.out.below hbl CX.out.lt)
    replace CY := Lib.hid (CY.out.below hbl CY.out.lt)
    replace VX := Lib.hid (VX.out.below hbl VX.out.lt)
    replace HW := Lib.hid (bel_trans HW.out hbl); clear hbl
    clear CX0 CX1 CX2 CY0 CY1 CY2 VX0 VX1 VX2
    have CX0 : w3.cell? ⟨w.heap.size, 0, none⟩ = some (.bool true) := CX.out.cell 0
    have CX1 : w3.cell? ⟨w.heap.size, 1, none⟩ = some (.slice A (limbs n).length c) := CX.out.cell 1
    have CX2 : w3.cell? ⟨w.heap.size, 2, none⟩ = some (.slice B (limbs d0).length d) := CX.out.cell 2
    have CY0 : w3.cell? ⟨w.heap.size + 1, 0, none⟩ = some (.bool false) := CY.out.cell 0
    have CY1 : w3.cell? ⟨w.heap.size + 1, 1, none⟩ = some (.slice A' (limbs m).length c') := CY.out.cell 1
    have CY2 : w3.cell? ⟨w.heap.size + 1, 2, none⟩ = some (.slice B' (limbs f0).length d') := CY.out.cell 2
    have VX0 : w3.cell? ⟨w2.heap.size, 0, none⟩ = some (.bool t.s) := VX.out.cell 0
    have VX1 : w3.cell? ⟨w2.heap.size, 1, none⟩ = some (.slice Ax (limbs t.n).length cx) := VX.out.cell 1
    have VX2 : w3.cell? ⟨w2.heap.size, 2, none⟩ = some (.slice Ay (limbs t.d).length cy) := VX.out.cell 2
    go_wp2_with fail
    refine (refOf_any true A B c d n d0 _ R1.out R2.out HQ.out.1 HQ.out.2.1).mono ?_
    rintro e w4 ⟨rfl, hbl⟩
    replace R1 := Lib.hid (R1.out.below hbl)
    replace R2 := Lib.hid (R2.out.below hbl)
    replace R3 := Lib.hid (R3.out.below hbl)
    replace R4 := Lib.hid (R4.out.below hbl)
    replace Rx := Lib.hid (Rx.out.below hbl)
    replace HNx := Lib.hid (HNx.out.below hbl)
    replace Ry := Lib.hid (Ry.out.below hbl)
    replace HNy := Lib.hid (HNy.out.below hbl)
    replace CX := Lib.hid (CX.out.below hbl CX.out.lt)
    replace CY := Lib.hid (CY.out.below hbl CY.out.lt)
    replace VX := Lib.hid (VX.out.below hbl VX.out.lt)
    replace HW := Lib.hid (bel_trans HW.out hbl); clear hbl
    clear CX0 CX1 CX2 CY0 CY1 CY2 VX0 VX1 VX2
    have CX0 : w4.cell? ⟨w.heap.size, 0, none⟩ = some (.bool true) := CX.out.cell 0
    have CX1 : w4.cell? ⟨w.heap.size, 1, none⟩ = some (.slice A (limbs n).length c) := CX.out.cell 1
    have CX2 : w4.cell? ⟨w.heap.size, 2, none⟩ = some (.slice B (limbs d0).length d) := CX.out.cell 2
    have CY0 : w4.cell? ⟨w.heap.size + 1, 0, none⟩ = some (.bool false) := CY.out.cell 0
    have CY1 : w4.cell? ⟨w.heap.size + 1, 1, none⟩ = some (.slice A' (limbs m).length c') := CY.out.cell 1
    have CY2 : w4.cell? ⟨w.heap.size + 1, 2, none⟩ = some (.slice B' (limbs f0).length d') := CY.out.cell 2
    have VX0 : w4.cell? ⟨w2.heap.size, 0, none⟩ = some (.bool t.s) := VX.out.cell 0
    have VX1 : w4.cell? ⟨w2.heap.size, 1, none⟩ = some (.slice Ax (limbs t.n).length cx) := VX.out.cell 1
    have VX2 : w4.cell? ⟨w2.heap.size, 2, none⟩ = some (.slice Ay (limbs t.d).length cy) := VX.out.cell 2
    go_upto_region 7 with fail
    obtain ⟨wn, hwn⟩ : ∃ wn, wn = w4.alloc (.cells #[.bool true, .string (dec n), .string (dec d0), .bool false] 49) := ⟨_, rfl⟩
    rw [← hwn]
    have hbl : Below w4.heap.size w4 wn := by rw [hwn]; exact bel_alloc (bel_refl _) _
    have VF : Blk wn (w4.heap.size) 49 #[.bool true, .string (dec n), .string (dec d0), .bool false] := by
      have hz := Blk.new (w4) 49 #[.bool true, .string (dec n), .string (dec d0), .bool false]
      rw [hwn]
      exact hz
    clear hwn
    replace R1 := Lib.hid (R1.out.below hbl)
    replace R2 := Lib.hid (R2.out.below hbl)
    replace R3 := Lib.hid (R3.out.below hbl)
    replace R4 := Lib.hid (R4.out.below hbl)
    replace Rx := Lib.hid (Rx.out.below hbl)
    replace HNx := Lib.hid (HNx.out.below hbl)
    replace Ry := Lib.hid (Ry.out.below hbl)
    replace HNy := Lib.hid (HNy.out.below hbl)
    replace CX := Lib.hid (CX.out.below hbl CX.out.lt)
    replace CY := Lib.hid (CY.out.below hbl CY.out.lt)
    replace VX := Lib.hid (VX.out.below hbl VX.out.lt)
    replace HW := Lib.hid (bel_trans HW.out hbl); clear hbl
    replace VF := Lib.hid VF
    clear CX0 CX1 CX2 CY0 CY1 CY2 VX0 VX1 VX2
    have CX0 : wn.cell? ⟨w.heap.size, 0, none⟩ = some (.bool true) := CX.out.cell 0
    have CX1 : wn.cell? ⟨w.heap.size, 1, none⟩ = some (.slice A (limbs n).length c) := CX.out.cell 1
    have CX2 : wn.cell? ⟨w.heap.size, 2, none⟩ = some (.slice B (limbs d0).length d) := CX.out.cell 2
    have CY0 : wn.cell? ⟨w.heap.size + 1, 0, none⟩ = some (.bool false) := CY.out.cell 0
    have CY1 : wn.cell? ⟨w.heap.size + 1, 1, none⟩ = some (.slice A' (limbs m).length c') := CY.out.cell 1
    have CY2 : wn.cell? ⟨w.heap.size + 1, 2, none⟩ = some (.slice B' (limbs f0).length d') := CY.out.cell 2
    have VX0 : wn.cell? ⟨w2.heap.size, 0, none⟩ = some (.bool t.s) := VX.out.cell 0
    have VX1 : wn.cell? ⟨w2.heap.size, 1, none⟩ = some (.slice Ax (limbs t.n).length cx) := VX.out.cell 1
    have VX2 : wn.cell? ⟨w2.heap.size, 2, none⟩ = some (.slice Ay (limbs t.d).length cy) := VX.out.cell 2
    have VF0 : wn.cell? ⟨w4.heap.size, 0, none⟩ = some (.bool true) := VF.out.cell 0
    have VF1 : wn.cell? ⟨w4.heap.size, 1, none⟩ = some (.string (dec n)) := VF.out.cell 1
    have VF2 : wn.cell? ⟨w4.heap.size, 2, none⟩ = some (.string (dec d0)) := VF.out.cell 2
    have VF3 : wn.cell? ⟨w4.heap.size, 3, none⟩ = some (.bool false) := VF.out.cell 3
    have hfd := fun W => field_q (dec (n / d0)) (dec (n % d0)) W
    refine wp_region_typedG 21 (TOf [VIs (.int .i64 0),
        VIs (.bool false),
        VIs (.bool false),
        VIs (.agg #[.bool t.s, .slice Ax (limbs t.n).length cx, .slice Ay (limbs t.d).length cy]),
        VIs (.pointer (some ⟨w4.heap.size, 0, none⟩)),
        VIs (.bool true),
        VIs (.pointer (some ⟨w4.heap.size, 1, none⟩)),
        VIs (.string (dec n)),
        VIs (.pointer (some ⟨w4.heap.size, 2, none⟩)),
        VIs (.string (dec d0)),
        VIs (.agg #[.string (dec (n / d0)), .string (dec (n % d0))]),
        VIs (.string (dec (n / d0))),
        VIs (.agg #[.bool true, .string (dec (n / d0)), .string ⟨#[49]⟩, .bool false]),
        VIs (.agg #[.bool t.s, .string (dec t.n), .string (dec t.d), .bool false]),
        VIs (.bool true),
        VIs (.bool false),
        VIs (.bool false),
        VIs (.bool false),
        VIs (.bool true),
        VIs (.bool false),
        VIs (.bool false)]) (by kernel_rfl) (by kernel_rfl) (by kernel_rfl) (LiftAll.at_ (.cons (VIs.lift _) (.cons (VIs.lift _) (.cons (VIs.lift _) (.cons (VIs.lift _) (.cons (VIs.lift _) (.cons (VIs.lift _) (.cons (VIs.lift _) (.cons (VIs.lift _) (.cons (VIs.lift _) (.cons (VIs.lift _) (.cons (VIs.lift _) (.cons (VIs.lift _) (.cons (VIs.lift _) (.cons (VIs.lift _) (.cons (VIs.lift _) (.cons (VIs.lift _) (.cons (VIs.lift _) (.cons (VIs.lift _) (.cons (VIs.lift _) (.cons (VIs.lift _) (.cons (VIs.lift _) .nil)))))))))))))))))))))) (stepsG_all (stepsG_cons ?_ (stepsG_cons ?_ (stepsG_cons ?_ (stepsG_cons ?_ (stepsG_cons ?_ (stepsG_cons ?_ (stepsG_cons ?_ (stepsG_cons ?_ (stepsG_cons ?_ (stepsG_cons ?_ (stepsG_cons ?_ (stepsG_cons ?_ (stepsG_cons ?_ (stepsG_cons ?_ (stepsG_cons ?_ (stepsG_cons ?_ (stepsG_cons ?_ (stepsG_cons ?_ (stepsG_cons ?_ (stepsG_cons ?_ (stepsG_cons ?_ stepsG_zero)))))))))))))))))))))) ?fin
    · refine stepG_plain rfl ?_
      intro a0 w9 K9 hF hB hK hC
      have b8 := hF.base (k := 8) (v := .int .i64 0) (by kernel_rfl) rfl
      clear hF hB hK
      go_simp
      exact hC _ _ (bel_refl _) fun _ _ => rfl
    · refine stepG_plain rfl ?_
      intro a0 w9 K9 hF hB hK hC
      obtain ⟨v52, e52, z52⟩ := dep hK 0 (g := .data) (j := 0) (k := 52) rfl rfl rfl
      have z52 : v52 = .int .i64 0 := z52
      subst z52
      have HB9 := Lib.hid hB
      clear hF hB hK
      go_simp
      exact hC _ _ (bel_refl _) fun _ _ => rfl
    · refine stepG_plain rfl ?_
      intro a0 w9 K9 hF hB hK hC
      obtain ⟨v53, e53, z53⟩ := dep hK 0 (g := .data) (j := 1) (k := 53) rfl rfl rfl
      have z53 : v53 = .bool false := z53
      subst z53
      clear hF hB hK
      go_simp
      exact hC _ _ (bel_refl _) fun _ _ => rfl
    · intro a0 w9 K9 hF hB hK hC
      obtain ⟨vg, eg, zg⟩ := dep hK 0 (g := .guard) (j := 2) (k := 54) rfl rfl rfl
      have zg : vg = .bool false := zg
      subst zg
      refine guard_in (j := 2) (k := 54) (want := false) rfl rfl eg rfl ?_
      have b7 := hF.base (k := 7) (v := .pointer (some ⟨w2.heap.size, 0, none⟩)) (by kernel_rfl) rfl
      have x90 : w9.cell? ⟨w2.heap.size, 0, none⟩ = some (.bool t.s) := (VX.out.below hB VX.out.lt).cell 0
      have x91 : w9.cell? ⟨w2.heap.size, 1, none⟩ = some (.slice Ax (limbs t.n).length cx) := (VX.out.below hB VX.out.lt).cell 1
      have x92 : w9.cell? ⟨w2.heap.size, 2, none⟩ = some (.slice Ay (limbs t.d).length cy) := (VX.out.below hB VX.out.lt).cell 2
      clear hF hB hK
      go_simp
      exact hC _ _ (bel_refl _) fun _ _ => rfl
    · intro a0 w9 K9 hF hB hK hC
      obtain ⟨vg, eg, zg⟩ := dep hK 0 (g := .guard) (j := 2) (k := 54) rfl rfl rfl
      have zg : vg = .bool false := zg
      subst zg
      refine guard_in (j := 2) (k := 54) (want := false) rfl rfl eg rfl ?_
      have b9 := hF.base (k := 9) (v := .pointer (some ⟨w4.heap.size, 0, none⟩)) (by kernel_rfl) rfl
      clear hF hB hK
      go_simp
      exact hC _ _ (bel_refl _) fun _ _ => rfl
    · intro a0 w9 K9 hF hB hK hC
      obtain ⟨vg, eg, zg⟩ := dep hK 1 (g := .guard) (j := 2) (k := 54) rfl rfl rfl
      have zg : vg = .bool false := zg
      subst zg
      refine guard_in (j := 2) (k := 54) (want := false) rfl rfl eg rfl ?_
      obtain ⟨v56, e56, z56⟩ := dep hK 0 (g := .data) (j := 4) (k := 56) rfl rfl rfl
      have z56 : v56 = .pointer (some ⟨w4.heap.size, 0, none⟩) := z56
      subst z56
      have x9 : w9.cell? ⟨w4.heap.size, 0, none⟩ = some (.bool true) := (VF.out.below hB VF.out.lt).cell 0
      clear hF hB hK
      go_simp
      exact hC _ _ (bel_refl _) fun _ _ => rfl
    · intro a0 w9 K9 hF hB hK hC
      obtain ⟨vg, eg, zg⟩ := dep hK 0 (g := .guard) (j := 2) (k := 54) rfl rfl rfl
      have zg : vg = .bool false := zg
      subst zg
      refine guard_in (j := 2) (k := 54) (want := false) rfl rfl eg rfl ?_
      have b9 := hF.base (k := 9) (v := .pointer (some ⟨w4.heap.size, 0, none⟩)) (by kernel_rfl) rfl
      clear hF hB hK
      go_simp
      exact hC _ _ (bel_refl _) fun _ _ => rfl
    · intro a0 w9 K9 hF hB hK hC
      obtain ⟨vg, eg, zg⟩ := dep hK 1 (g := .guard) (j := 2) (k := 54) rfl rfl rfl
      have zg : vg = .bool false := zg
      subst zg
      refine guard_in (j := 2) (k := 54) (want := false) rfl rfl eg rfl ?_
      obtain ⟨v58, e58, z58⟩ := dep hK 0 (g := .data) (j := 6) (k := 58) rfl rfl rfl
      have z58 : v58 = .pointer (some ⟨w4.heap.size, 1, none⟩) := z58
      subst z58
      have x9 : w9.cell? ⟨w4.heap.size, 1, none⟩ = some (.string (dec n)) := (VF.out.below hB VF.out.lt).cell 1
      clear hF hB hK
      go_simp
      exact hC _ _ (bel_refl _) fun _ _ => rfl
    · intro a0 w9 K9 hF hB hK hC
      obtain ⟨vg, eg, zg⟩ := dep hK 0 (g := .guard) (j := 2) (k := 54) rfl rfl rfl
      have zg : vg = .bool false := zg
      subst zg
      refine guard_in (j := 2) (k := 54) (want := false) rfl rfl eg rfl ?_
      have b9 := hF.base (k := 9) (v := .pointer (some ⟨w4.heap.size, 0, none⟩)) (by kernel_rfl) rfl
      clear hF hB hK
      go_simp
      exact hC _ _ (bel_refl _) fun _ _ => rfl
    · intro a0 w9 K9 hF hB hK hC
      obtain ⟨vg, eg, zg⟩ := dep hK 1 (g := .guard) (j := 2) (k := 54) rfl rfl rfl
      have zg : vg = .bool false := zg
      subst zg
      refine guard_in (j := 2) (k := 54) (want := false) rfl rfl eg rfl ?_
      obtain ⟨v60, e60, z60⟩ := dep hK 0 (g := .data) (j := 8) (k := 60) rfl rfl rfl
      have z60 : v60 = .pointer (some ⟨w4.heap.size, 2, none⟩) := z60
      subst z60
      have x9 : w9.cell? ⟨w4.heap.size, 2, none⟩ = some (.string (dec d0)) := (VF.out.below hB VF.out.lt).cell 2
      clear hF hB hK
      go_simp
      exact hC _ _ (bel_refl _) fun _ _ => rfl
    · intro a0 w9 K9 hF hB hK hC
      obtain ⟨vg, eg, zg⟩ := dep hK 3 (g := .guard) (j := 2) (k := 54) rfl rfl rfl
      have zg : vg = .bool false := zg
      subst zg
      refine guard_in (j := 2) (k := 54) (want := false) rfl rfl eg rfl ?_
      obtain ⟨v59, e59, z59⟩ := dep hK 0 (g := .data) (j := 7) (k := 59) rfl rfl rfl
      have z59 : v59 = .string (dec n) := z59
      subst z59
      obtain ⟨v61, e61, z61⟩ := dep hK 1 (g := .data) (j := 9) (k := 61) rfl rfl rfl
      have z61 : v61 = .string (dec d0) := z61
      subst z61
      have HB9 := Lib.hid hB
      clear hF hB hK
      go_simp
      refine (refDiv_any n d0 _ (by have := decL_top HQ.out.1; omega) (by have := decL_top HQ.out.2.1; omega) HQ.out.2.2.den).mono ?_
      rintro e w7 ⟨rfl, hbl⟩
      exact hC _ _ hbl fun _ _ => rfl
    · intro a0 w9 K9 hF hB hK hC
      obtain ⟨vg, eg, zg⟩ := dep hK 1 (g := .guard) (j := 2) (k := 54) rfl rfl rfl
      have zg : vg = .bool false := zg
      subst zg
      refine guard_in (j := 2) (k := 54) (want := false) rfl rfl eg rfl ?_
      obtain ⟨v62, e62, z62⟩ := dep hK 0 (g := .data) (j := 10) (k := 62) rfl rfl rfl
      have z62 : v62 = .agg #[.string (dec (n / d0)), .string (dec (n % d0))] := z62
      subst z62
      have HB9 := Lib.hid hB
      clear hF hB hK
      go_simp
      exact hC _ _ (bel_refl _) fun _ _ => rfl
    · intro a0 w9 K9 hF hB hK hC
      obtain ⟨vg, eg, zg⟩ := dep hK 2 (g := .guard) (j := 2) (k := 54) rfl rfl rfl
      have zg : vg = .bool false := zg
      subst zg
      refine guard_in (j := 2) (k := 54) (want := false) rfl rfl eg rfl ?_
      obtain ⟨v57, e57, z57⟩ := dep hK 0 (g := .data) (j := 5) (k := 57) rfl rfl rfl
      have z57 : v57 = .bool true := z57
      subst z57
      obtain ⟨v63, e63, z63⟩ := dep hK 1 (g := .data) (j := 11) (k := 63) rfl rfl rfl
      have z63 : v63 = .string (dec (n / d0)) := z63
      subst z63
      have HB9 := Lib.hid hB
      clear hF hB hK
      go_simp
      exact hC _ _ (bel_refl _) fun _ _ => rfl
    · intro a0 w9 K9 hF hB hK hC
      obtain ⟨vg, eg, zg⟩ := dep hK 2 (g := .guard) (j := 2) (k := 54) rfl rfl rfl
      have zg : vg = .bool false := zg
      subst zg
      refine guard_in (j := 2) (k := 54) (want := false) rfl rfl eg rfl ?_
      obtain ⟨v64, e64, z64⟩ := dep hK 0 (g := .data) (j := 12) (k := 64) rfl rfl rfl
      have z64 : v64 = .agg #[.bool true, .string (dec (n / d0)), .string ⟨#[49]⟩, .bool false] := z64
      subst z64
      have HB9 := Lib.hid hB
      clear hF hB hK
      rw [← dec_one] at e64
      go_simp
      refine (refRed_fit true (n / d0) 1 _ (lt_top (Nat.div_le_self n d0) HQ.out.1) (small_top (by decide)) HT.out).mono ?_
      rintro e w7 ⟨rfl, hbl⟩
      exact hC _ _ hbl fun _ _ => rfl
    · intro a0 w9 K9 hF hB hK hC
      obtain ⟨vg, eg, zg⟩ := dep hK 3 (g := .guard) (j := 2) (k := 54) rfl rfl rfl
      have zg : vg = .bool false := zg
      subst zg
      refine guard_in (j := 2) (k := 54) (want := false) rfl rfl eg rfl ?_
      obtain ⟨v55, e55, z55⟩ := dep hK 0 (g := .data) (j := 3) (k := 55) rfl rfl rfl
      have z55 : v55 = .agg #[.bool t.s, .slice Ax (limbs t.n).length cx, .slice Ay (limbs t.d).length cy] := z55
      subst z55
      obtain ⟨v65, e65, z65⟩ := dep hK 1 (g := .data) (j := 13) (k := 65) rfl rfl rfl
      have z65 : v65 = .agg #[.bool t.s, .string (dec t.n), .string (dec t.d), .bool false] := z65
      subst z65
      have HB9 := Lib.hid hB
      clear hF hB hK
      go_simp
      refine (refIs_true t false Ax Ay cx cy _ (Rx.out.below HB9.out) (Ry.out.below HB9.out) HTF.out.1 HTF.out.2.1 HTF.out.2.2).mono ?_
      rintro e w7 ⟨rfl, hbl⟩
      exact hC _ _ hbl fun _ _ => rfl
    · intro a0 w9 K9 hF hB hK hC
      obtain ⟨vg, eg, zg⟩ := dep hK 1 (g := .guard) (j := 2) (k := 54) rfl rfl rfl
      have zg : vg = .bool false := zg
      subst zg
      refine guard_in (j := 2) (k := 54) (want := false) rfl rfl eg rfl ?_
      obtain ⟨v66, e66, z66⟩ := dep hK 0 (g := .data) (j := 14) (k := 66) rfl rfl rfl
      have z66 : v66 = .bool true := z66
      subst z66
      have HB9 := Lib.hid hB
      clear hF hB hK
      go_simp
      exact hC _ _ (bel_refl _) fun _ _ => rfl
    · refine stepG_plain rfl ?_
      intro a0 w9 K9 hF hB hK hC
      obtain ⟨v54, e54, z54⟩ := dep hK 0 (g := .data) (j := 2) (k := 54) rfl rfl rfl
      have z54 : v54 = .bool false := z54
      subst z54
      obtain ⟨v67, e67, z67⟩ := dep hK 1 (g := .data) (j := 15) (k := 67) rfl rfl rfl
      have z67 : v67 = .bool false := z67
      subst z67
      have HB9 := Lib.hid hB
      clear hF hB hK
      go_simp
      exact hC _ _ (bel_refl _) fun _ _ => rfl
    · refine stepG_plain rfl ?_
      intro a0 w9 K9 hF hB hK hC
      obtain ⟨v68, e68, z68⟩ := dep hK 0 (g := .data) (j := 16) (k := 68) rfl rfl rfl
      have z68 : v68 = .bool false := z68
      subst z68
      clear hF hB hK
      go_simp
      exact hC _ _ (bel_refl _) fun _ _ => rfl
    · intro a0 w9 K9 hF hB hK hC
      obtain ⟨vg, eg, zg⟩ := dep hK 1 (g := .guard) (j := 17) (k := 69) rfl rfl rfl
      have zg : vg = .bool false := zg
      subst zg
      refine guard_in (j := 17) (k := 69) (want := false) rfl rfl eg rfl ?_
      have HB9 := Lib.hid hB
      clear hF hB hK
      go_simp
      refine (aliveQ _).mono ?_
      rintro e w7 ⟨rfl, hbl⟩
      exact hC _ _ hbl fun _ _ => rfl
    · intro a0 w9 K9 hF hB hK hC
      obtain ⟨vg, eg, zg⟩ := dep hK 1 (g := .guard) (j := 17) (k := 69) rfl rfl rfl
      have zg : vg = .bool false := zg
      subst zg
      refine guard_in (j := 17) (k := 69) (want := false) rfl rfl eg rfl ?_
      obtain ⟨v70, e70, z70⟩ := dep hK 0 (g := .data) (j := 18) (k := 70) rfl rfl rfl
      have z70 : v70 = .bool true := z70
      subst z70
      have HB9 := Lib.hid hB
      clear hF hB hK
      go_simp
      exact hC _ _ (bel_refl _) fun _ _ => rfl
    · refine stepG_plain rfl ?_
      intro a0 w9 K9 hF hB hK hC
      obtain ⟨v69, e69, z69⟩ := dep hK 0 (g := .data) (j := 17) (k := 69) rfl rfl rfl
      have z69 : v69 = .bool false := z69
      subst z69
      obtain ⟨v71, e71, z71⟩ := dep hK 1 (g := .data) (j := 19) (k := 71) rfl rfl rfl
      have z71 : v71 = .bool false := z71
      subst z71
      have HB9 := Lib.hid hB
      clear hF hB hK
      go_simp
      exact hC _ _ (bel_refl _) fun _ _ => rfl
    case fin =>
      intro a0 w9 hF hB hK
      have b2 := hF.base (k := 2) (v := .pointer (some ⟨w.heap.size, 0, none⟩)) (by kernel_rfl) rfl
      have b3 := hF.base (k := 3) (v := .pointer (some ⟨w.heap.size + 1, 0, none⟩)) (by kernel_rfl) rfl
      have b5 := hF.base (k := 5) (v := .int .i64 (-1)) (by kernel_rfl) rfl
      have b6 := hF.base (k := 6) (v := .int .i64 0) (by kernel_rfl) rfl
      have b7 := hF.base (k := 7) (v := .pointer (some ⟨w2.heap.size, 0, none⟩)) (by kernel_rfl) rfl
      have b8 := hF.base (k := 8) (v := .int .i64 0) (by kernel_rfl) rfl
      have b9 := hF.base (k := 9) (v := .pointer (some ⟨w4.heap.size, 0, none⟩)) (by kernel_rfl) rfl
      have hsz := hF.size
      have hdf := hF.defers
      clear hF
      obtain ⟨v72, e72, z72⟩ := known hK 20 (k := 72) (by decide) rfl
      have z72 : v72 = .bool false := z72
      subst z72
      clear hK
      obtain ⟨⟨l0⟩, df⟩ := a0
      have hs0 : l0.length = 131 := hsz
      clear hsz
      replace hdf : df = _ := hdf
      subst hdf
      obtain ⟨u, rfl⟩ := lits_131 hs0
      clear hs0
      have q2 : u 2 = _ := Option.some.inj b2
      clear b2
      have q3 : u 3 = _ := Option.some.inj b3
      clear b3
      have q5 : u 5 = _ := Option.some.inj b5
      clear b5
      have q6 : u 6 = _ := Option.some.inj b6
      clear b6
      have q7 : u 7 = _ := Option.some.inj b7
      clear b7
      have q8 : u 8 = _ := Option.some.inj b8
      clear b8
      have q9 : u 9 = _ := Option.some.inj b9
      clear b9
      have q72 : u 72 = _ := Option.some.inj e72
      clear e72
      rw [q2, q3, q5, q6, q7, q8, q9, q72]
      clear q2 q3 q5 q6 q7 q8 q9 q72
      have hbl := hB; clear hB
      replace R1 := Lib.hid (R1.out.below hbl)
      replace R2 := Lib.hid (R2.out.below hbl)
      replace R3 := Lib.hid (R3.out.below hbl)
      replace R4 := Lib.hid (R4.out.below hbl)
      replace Rx := Lib.hid (Rx.out.below hbl)
      replace HNx := Lib.hid (HNx.out.below hbl)
      replace Ry := Lib.hid (Ry.out.below hbl)
      replace HNy := Lib.hid (HNy.out.below hbl)
      replace CX := Lib.hid (CX.out.below hbl CX.out.lt)
      replace CY := Lib.hid (CY.out.below hbl CY.out.lt)
      replace VX := Lib.hid (VX.out.below hbl VX.out.lt)
      replace VF := Lib.hid (VF.out.below hbl VF.out.lt)
      replace HW := Lib.hid (bel_trans HW.out hbl); clear hbl
      clear CX0 CX1 CX2 CY0 CY1 CY2 VX0 VX1 VX2 VF0 VF1 VF2 VF3
      have CX0 : w9.cell? ⟨w.heap.size, 0, none⟩ = some (.bool true) := CX.out.cell 0
      have CX1 : w9.cell? ⟨w.heap.size, 1, none⟩ = some (.slice A (limbs n).length c) := CX.out.cell 1
      have CX2 : w9.cell? ⟨w.heap.size, 2, none⟩ = some (.slice B (limbs d0).length d) := CX.out.cell 2
      have CY0 : w9.cell? ⟨w.heap.size + 1, 0, none⟩ = some (.bool false) := CY.out.cell 0
      have CY1 : w9.cell? ⟨w.heap.size + 1, 1, none⟩ = some (.slice A' (limbs m).length c') := CY.out.cell 1
      have CY2 : w9.cell? ⟨w.heap.size + 1, 2, none⟩ = some (.slice B' (limbs f0).length d') := CY.out.cell 2
      have VX0 : w9.cell? ⟨w2.heap.size, 0, none⟩ = some (.bool t.s) := VX.out.cell 0
      have VX1 : w9.cell? ⟨w2.heap.size, 1, none⟩ = some (.slice Ax (limbs t.n).length cx) := VX.out.cell 1
      have VX2 : w9.cell? ⟨w2.heap.size, 2, none⟩ = some (.slice Ay (limbs t.d).length cy) := VX.out.cell 2
      have VF0 : w9.cell? ⟨w4.heap.size, 0, none⟩ = some (.bool true) := VF.out.cell 0
      have VF1 : w9.cell? ⟨w4.heap.size, 1, none⟩ = some (.string (dec n)) := VF.out.cell 1
      have VF2 : w9.cell? ⟨w4.heap.size, 2, none⟩ = some (.string (dec d0)) := VF.out.cell 2
      have VF3 : w9.cell? ⟨w4.heap.size, 3, none⟩ = some (.bool false) := VF.out.cell 3
      refine wpList_nil ?_
      clear hfd
      go_wp2_with fail
      refine (refRatRight_is false A' B' c' d' (limbs m) (limbs f0) _ R3.out R4.out M.out.2.2.1 M.out.2.2.2 L18.out.2.2.1 L18.out.2.2.2 HRB.out).mono ?_
      rintro e w5 ⟨rfl, hbl⟩
      replace R1 := Lib.hid (R1.out.below hbl)
      replace R2 := Lib.hid (R2.out.below hbl)
      replace R3 := Lib.hid (R3.out.below hbl)
      replace R4 := Lib.hid (R4.out.below hbl)
      replace Rx := Lib.hid (Rx.out.below hbl)
      replace HNx := Lib.hid (HNx.out.below hbl)
      replace Ry := Lib.hid (Ry.out.below hbl)
      replace HNy := Lib.hid (HNy.out.below hbl)
      replace CX := Lib.hid (CX.out.below hbl CX.out.lt)
      replace CY := Lib.hid (CY.out.below hbl CY.out.lt)
      replace VX := Lib.hid (VX.out.below hbl VX.out.lt)
      replace VF := Lib.hid (VF.out.below hbl VF.out.lt)
      replace HW := Lib.hid (bel_trans HW.out hbl); clear hbl
      clear CX0 CX1 CX2 CY0 CY1 CY2 VX0 VX1 VX2 VF0 VF1 VF2 VF3
      have CX0 : w5.cell? ⟨w.heap.size, 0, none⟩ = some (.bool true) := CX.out.cell 0
      have CX1 : w5.cell? ⟨w.heap.size, 1, none⟩ = some (.slice A (limbs n).length c) := CX.out.cell 1
      have CX2 : w5.cell? ⟨w.heap.size, 2, none⟩ = some (.slice B (limbs d0).length d) := CX.out.cell 2
      have CY0 : w5.cell? ⟨w.heap.size + 1, 0, none⟩ = some (.bool false) := CY.out.cell 0
      have CY1 : w5.cell? ⟨w.heap.size + 1, 1, none⟩ = some (.slice A' (limbs m).length c') := CY.out.cell 1
      have CY2 : w5.cell? ⟨w.heap.size + 1, 2, none⟩ = some (.slice B' (limbs f0).length d') := CY.out.cell 2
      have VX0 : w5.cell? ⟨w2.heap.size, 0, none⟩ = some (.bool t.s) := VX.out.cell 0
      have VX1 : w5.cell? ⟨w2.heap.size, 1, none⟩ = some (.slice Ax (limbs t.n).length cx) := VX.out.cell 1
      have VX2 : w5.cell? ⟨w2.heap.size, 2, none⟩ = some (.slice Ay (limbs t.d).length cy) := VX.out.cell 2
      have VF0 : w5.cell? ⟨w4.heap.size, 0, none⟩ = some (.bool true) := VF.out.cell 0
      have VF1 : w5.cell? ⟨w4.heap.size, 1, none⟩ = some (.string (dec n)) := VF.out.cell 1
      have VF2 : w5.cell? ⟨w4.heap.size, 2, none⟩ = some (.string (dec d0)) := VF.out.cell 2
      have VF3 : w5.cell? ⟨w4.heap.size, 3, none⟩ = some (.bool false) := VF.out.cell 3
      go_wp2_with fail
      refine (refOf_any false A' B' c' d' m f0 _ R3.out R4.out HP.out.1 HP.out.2.1).mono ?_
      rintro e w6 ⟨rfl, hbl⟩
      replace R1 := Lib.hid (R1.out.below hbl)
      replace R2 := Lib.hid (R2.out.below hbl)
      replace R3 := Lib.hid (R3.out.below hbl)
      replace R4 := Lib.hid (R4.out.below hbl)
      replace Rx := Lib.hid (Rx.out.below hbl)
      replace HNx := Lib.hid (HNx.out.below hbl)
      replace Ry := Lib.hid (Ry.out.below hbl)
      replace HNy := Lib.hid (HNy.out.below hbl)
      replace CX := Lib.hid (CX.out.below hbl CX.out.lt)
      replace CY := Lib.hid (CY.out.below hbl CY.out.lt)
      replace VX := Lib.hid (VX.out.below hbl VX.out.lt)
      replace VF := Lib.hid (VF.out.below hbl VF.out.lt)
      replace HW := Lib.hid (bel_trans HW.out hbl); clear hbl
      clear CX0 CX1 CX2 CY0 CY1 CY2 VX0 VX1 VX2 VF0 VF1 VF2 VF3
      have CX0 : w6.cell? ⟨w.heap.size, 0, none⟩ = some (.bool true) := CX.out.cell 0
      have CX1 : w6.cell? ⟨w.heap.size, 1, none⟩ = some (.slice A (limbs n).length c) := CX.out.cell 1
      have CX2 : w6.cell? ⟨w.heap.size, 2, none⟩ = some (.slice B (limbs d0).length d) := CX.out.cell 2
      have CY0 : w6.cell? ⟨w.heap.size + 1, 0, none⟩ = some (.bool false) := CY.out.cell 0
      have CY1 : w6.cell? ⟨w.heap.size + 1, 1, none⟩ = some (.slice A' (limbs m).length c') := CY.out.cell 1
      have CY2 : w6.cell? ⟨w.heap.size + 1, 2, none⟩ = some (.slice B' (limbs f0).length d') := CY.out.cell 2
      have VX0 : w6.cell? ⟨w2.heap.size, 0, none⟩ = some (.bool t.s) := VX.out.cell 0
      have VX1 : w6.cell? ⟨w2.heap.size, 1, none⟩ = some (.slice Ax (limbs t.n).length cx) := VX.out.cell 1
      have VX2 : w6.cell? ⟨w2.heap.size, 2, none⟩ = some (.slice Ay (limbs t.d).length cy) := VX.out.cell 2
      have VF0 : w6.cell? ⟨w4.heap.size, 0, none⟩ = some (.bool true) := VF.out.cell 0
      have VF1 : w6.cell? ⟨w4.heap.size, 1, none⟩ = some (.string (dec n)) := VF.out.cell 1
      have VF2 : w6.cell? ⟨w4.heap.size, 2, none⟩ = some (.string (dec d0)) := VF.out.cell 2
      have VF3 : w6.cell? ⟨w4.heap.size, 3, none⟩ = some (.bool false) := VF.out.cell 3
      go_upto_region 12 with fail
      obtain ⟨wo, hwo⟩ : ∃ wo, wo = w6.alloc (.cells #[.bool false, .string (dec m), .string (dec f0), .bool false] 49) := ⟨_, rfl⟩
      rw [← hwo]
      have hbl : Below w6.heap.size w6 wo := by rw [hwo]; exact bel_alloc (bel_refl _) _
      have VG : Blk wo (w6.heap.size) 49 #[.bool false, .string (dec m), .string (dec f0), .bool false] := by
        have hz := Blk.new (w6) 49 #[.bool false, .string (dec m), .string (dec f0), .bool false]
        rw [hwo]
        exact hz
      clear hwo
      replace R1 := Lib.hid (R1.out.below hbl)
      replace R2 := Lib.hid (R2.out.below hbl)
      replace R3 := Lib.hid (R3.out.below hbl)
      replace R4 := Lib.hid (R4.out.below hbl)
      replace Rx := Lib.hid (Rx.out.below hbl)
      replace HNx := Lib.hid (HNx.out.below hbl)
      replace Ry := Lib.hid (Ry.out.below hbl)
      replace HNy := Lib.hid (HNy.out.below hbl)
      replace CX := Lib.hid (CX.out.below hbl CX.out.lt)
      replace CY := Lib.hid (CY.out.below hbl CY.out.lt)
      replace VX := Lib.hid (VX.out.below hbl VX.out.lt)
      replace VF := Lib.hid (VF.out.below hbl VF.out.lt)
      replace HW := Lib.hid (bel_trans HW.out hbl); clear hbl
      replace VG := Lib.hid VG
      clear CX0 CX1 CX2 CY0 CY1 CY2 VX0 VX1 VX2 VF0 VF1 VF2 VF3
      have CX0 : wo.cell? ⟨w.heap.size, 0, none⟩ = some (.bool true) := CX.out.cell 0
      have CX1 : wo.cell? ⟨w.heap.size, 1, none⟩ = some (.slice A (limbs n).length c) := CX.out.cell 1
      have CX2 : wo.cell? ⟨w.heap.size, 2, none⟩ = some (.slice B (limbs d0).length d) := CX.out.cell 2
      have CY0 : wo.cell? ⟨w.heap.size + 1, 0, none⟩ = some (.bool false) := CY.out.cell 0
      have CY1 : wo.cell? ⟨w.heap.size + 1, 1, none⟩ = some (.slice A' (limbs m).length c') := CY.out.cell 1
      have CY2 : wo.cell? ⟨w.heap.size + 1, 2, none⟩ = some (.slice B' (limbs f0).length d') := CY.out.cell 2
      have VX0 : wo.cell? ⟨w2.heap.size, 0, none⟩ = some (.bool t.s) := VX.out.cell 0
      have VX1 : wo.cell? ⟨w2.heap.size, 1, none⟩ = some (.slice Ax (limbs t.n).length cx) := VX.out.cell 1
      have VX2 : wo.cell? ⟨w2.heap.size, 2, none⟩ = some (.slice Ay (limbs t.d).length cy) := VX.out.cell 2
      have VF0 : wo.cell? ⟨w4.heap.size, 0, none⟩ = some (.bool true) := VF.out.cell 0
      have VF1 : wo.cell? ⟨w4.heap.size, 1, none⟩ = some (.string (dec n)) := VF.out.cell 1
      have VF2 : wo.cell? ⟨w4.heap.size, 2, none⟩ = some (.string (dec d0)) := VF.out.cell 2
      have VF3 : wo.cell? ⟨w4.heap.size, 3, none⟩ = some (.bool false) := VF.out.cell 3
      have VG0 : wo.cell? ⟨w6.heap.size, 0, none⟩ = some (.bool false) := VG.out.cell 0
      have VG1 : wo.cell? ⟨w6.heap.size, 1, none⟩ = some (.string (dec m)) := VG.out.cell 1
      have VG2 : wo.cell? ⟨w6.heap.size, 2, none⟩ = some (.string (dec f0)) := VG.out.cell 2
      have VG3 : wo.cell? ⟨w6.heap.size, 3, none⟩ = some (.bool false) := VG.out.cell 3
      refine wp_region_typed 12 (TOf [VIs (.pointer (some ⟨w4.heap.size, 1, none⟩)),
          VIs (.string (dec n)),
          VIs (.pointer (some ⟨w6.heap.size, 2, none⟩)),
          VIs (.string (dec f0)),
          VIs (.string (dec x)),
          VIs (.pointer (some ⟨w6.heap.size, 1, none⟩)),
          VIs (.string (dec m)),
          VIs (.pointer (some ⟨w4.heap.size, 2, none⟩)),
          VIs (.string (dec d0)),
          VIs (.string (dec y)),
          VIs (.string (dec x)),
          VIs (.string (dec y))]) (by kernel_rfl) (by kernel_rfl) (by kernel_rfl) (LiftAll.at_ (.cons (VIs.lift _) (.cons (VIs.lift _) (.cons (VIs.lift _) (.cons (VIs.lift _) (.cons (VIs.lift _) (.cons (VIs.lift _) (.cons (VIs.lift _) (.cons (VIs.lift _) (.cons (VIs.lift _) (.cons (VIs.lift _) (.cons (VIs.lift _) (.cons (VIs.lift _) .nil))))))))))))) (steps_all (steps_cons ?_ (steps_cons ?_ (steps_cons ?_ (steps_cons ?_ (steps_cons ?_ (steps_cons ?_ (steps_cons ?_ (steps_cons ?_ (steps_cons ?_ (steps_cons ?_ (steps_cons ?_ (steps_cons ?_ steps_zero))))))))))))) ?fin
      · intro a0 w9 K9 hF hB hK hC
        have b9 := hF.base (k := 9) (v := .pointer (some ⟨w4.heap.size, 0, none⟩)) (by kernel_rfl) rfl
        clear hF hB hK
        go_simp
        exact hC _ _ (bel_refl _) fun _ _ => rfl
      · intro a0 w9 K9 hF hB hK hC
        obtain ⟨v84, e84, z84⟩ := dep hK 0 (g := .data) (j := 0) (k := 84) rfl rfl rfl
        have z84 : v84 = .pointer (some ⟨w4.heap.size, 1, none⟩) := z84
        subst z84
        have x9 : w9.cell? ⟨w4.heap.size, 1, none⟩ = some (.string (dec n)) := (VF.out.below hB VF.out.lt).cell 1
        clear hF hB hK
        go_simp
        exact hC _ _ (bel_refl _) fun _ _ => rfl
      · intro a0 w9 K9 hF hB hK hC
        have b10 := hF.base (k := 10) (v := .pointer (some ⟨w6.heap.size, 0, none⟩)) (by kernel_rfl) rfl
        clear hF hB hK
        go_simp
        exact hC _ _ (bel_refl _) fun _ _ => rfl
      · intro a0 w9 K9 hF hB hK hC
        obtain ⟨v86, e86, z86⟩ := dep hK 0 (g := .data) (j := 2) (k := 86) rfl rfl rfl
        have z86 : v86 = .pointer (some ⟨w6.heap.size, 2, none⟩) := z86
        subst z86
        have x9 : w9.cell? ⟨w6.heap.size, 2, none⟩ = some (.string (dec f0)) := (VG.out.below hB VG.out.lt).cell 2
        clear hF hB hK
        go_simp
        exact hC _ _ (bel_refl _) fun _ _ => rfl
      · intro a0 w9 K9 hF hB hK hC
        obtain ⟨v85, e85, z85⟩ := dep hK 0 (g := .data) (j := 1) (k := 85) rfl rfl rfl
        have z85 : v85 = .string (dec n) := z85
        subst z85
        obtain ⟨v87, e87, z87⟩ := dep hK 1 (g := .data) (j := 3) (k := 87) rfl rfl rfl
        have z87 : v87 = .string (dec f0) := z87
        subst z87
        have HB9 := Lib.hid hB
        clear hF hB hK
        go_simp
        refine (refMul_any n f0 _ (by have := decL_top HQ.out.1; omega) (by have := decL_top HP.out.2.1; omega)).mono ?_
        rintro e w7 ⟨rfl, hbl⟩
        rw [HXY.out.1]
        exact hC _ _ hbl fun _ _ => rfl
      · intro a0 w9 K9 hF hB hK hC
        have b10 := hF.base (k := 10) (v := .pointer (some ⟨w6.heap.size, 0, none⟩)) (by kernel_rfl) rfl
        clear hF hB hK
        go_simp
        exact hC _ _ (bel_refl _) fun _ _ => rfl
      · intro a0 w9 K9 hF hB hK hC
        obtain ⟨v89, e89, z89⟩ := dep hK 0 (g := .data) (j := 5) (k := 89) rfl rfl rfl
        have z89 : v89 = .pointer (some ⟨w6.heap.size, 1, none⟩) := z89
        subst z89
        have x9 : w9.cell? ⟨w6.heap.size, 1, none⟩ = some (.string (dec m)) := (VG.out.below hB VG.out.lt).cell 1
        clear hF hB hK
        go_simp
        exact hC _ _ (bel_refl _) fun _ _ => rfl
      · intro a0 w9 K9 hF hB hK hC
        have b9 := hF.base (k := 9) (v := .pointer (some ⟨w4.heap.size, 0, none⟩)) (by kernel_rfl) rfl
        clear hF hB hK
        go_simp
        exact hC _ _ (bel_refl _) fun _ _ => rfl
      · intro a0 w9 K9 hF hB hK hC
        obtain ⟨v91, e91, z91⟩ := dep hK 0 (g := .data) (j := 7) (k := 91) rfl rfl rfl
        have z91 : v91 = .pointer (some ⟨w4.heap.size, 2, none⟩) := z91
        subst z91
        have x9 : w9.cell? ⟨w4.heap.size, 2, none⟩ = some (.string (dec d0)) := (VF.out.below hB VF.out.lt).cell 2
        clear hF hB hK
        go_simp
        exact hC _ _ (bel_refl _) fun _ _ => rfl
      · intro a0 w9 K9 hF hB hK hC
        obtain ⟨v90, e90, z90⟩ := dep hK 0 (g := .data) (j := 6) (k := 90) rfl rfl rfl
        have z90 : v90 = .string (dec m) := z90
        subst z90
        obtain ⟨v92, e92, z92⟩ := dep hK 1 (g := .data) (j := 8) (k := 92) rfl rfl rfl
        have z92 : v92 = .string (dec d0) := z92
        subst z92
        have HB9 := Lib.hid hB
        clear hF hB hK
        go_simp
        refine (refMul_any m d0 _ (by have := decL_top HP.out.1; omega) (by have := decL_top HQ.out.2.1; omega)).mono ?_
        rintro e w7 ⟨rfl, hbl⟩
        rw [HXY.out.2]
        exact hC _ _ hbl fun _ _ => rfl
      · intro a0 w9 K9 hF hB hK hC
        obtain ⟨v88, e88, z88⟩ := dep hK 0 (g := .data) (j := 4) (k := 88) rfl rfl rfl
        have z88 : v88 = .string (dec x) := z88
        subst z88
        clear hF hB hK
        go_simp
        exact hC _ _ (bel_refl _) fun _ _ => rfl
      · intro a0 w9 K9 hF hB hK hC
        obtain ⟨v93, e93, z93⟩ := dep hK 0 (g := .data) (j := 9) (k := 93) rfl rfl rfl
        have z93 : v93 = .string (dec y) := z93
        subst z93
        clear hF hB hK
        go_simp
        exact hC _ _ (bel_refl _) fun _ _ => rfl
      case fin =>
        intro a0 w9 hF hB hK
        have b5 := hF.base (k := 5) (v := .int .i64 (-1)) (by kernel_rfl) rfl
        have b6 := hF.base (k := 6) (v := .int .i64 0) (by kernel_rfl) rfl
        have b9 := hF.base (k := 9) (v := .pointer (some ⟨w4.heap.size, 0, none⟩)) (by kernel_rfl) rfl
        have b10 := hF.base (k := 10) (v := .pointer (some ⟨w6.heap.size, 0, none⟩)) (by kernel_rfl) rfl
        have hsz := hF.size
        have hdf := hF.defers
        clear hF
        obtain ⟨v11, e11, z11⟩ := known hK 10 (k := 11) (by decide) rfl
        have z11 : v11 = .string (dec x) := z11
        subst z11
        obtain ⟨v12, e12, z12⟩ := known hK 11 (k := 12) (by decide) rfl
        have z12 : v12 = .string (dec y) := z12
        subst z12
        clear hK
        obtain ⟨⟨l0⟩, df⟩ := a0
        have hs0 : l0.length = 131 := hsz
        clear hsz
        replace hdf : df = _ := hdf
        subst hdf
        obtain ⟨u, rfl⟩ := lits_131 hs0
        clear hs0
        have q5 : u 5 = _ := Option.some.inj b5
        clear b5
        have q6 : u 6 = _ := Option.some.inj b6
        clear b6
        have q9 : u 9 = _ := Option.some.inj b9
        clear b9
        have q10 : u 10 = _ := Option.some.inj b10
        clear b10
        have q11 : u 11 = _ := Option.some.inj e11
        clear e11
        have q12 : u 12 = _ := Option.some.inj e12
        clear e12
        rw [q5, q6, q9, q10, q11, q12]
        clear q5 q6 q9 q10 q11 q12
        have hbl := hB; clear hB
        replace R1 := Lib.hid (R1.out.below hbl)
        replace R2 := Lib.hid (R2.out.below hbl)
        replace R3 := Lib.hid (R3.out.below hbl)
        replace R4 := Lib.hid (R4.out.below hbl)
        replace Rx := Lib.hid (Rx.out.below hbl)
        replace HNx := Lib.hid (HNx.out.below hbl)
        replace Ry := Lib.hid (Ry.out.below hbl)
        replace HNy := Lib.hid (HNy.out.below hbl)
        replace CX := Lib.hid (CX.out.below hbl CX.out.lt)
        replace CY := Lib.hid (CY.out.below hbl CY.out.lt)
        replace VX := Lib.hid (VX.out.below hbl VX.out.lt)
        replace VF := Lib.hid (VF.out.below hbl VF.out.lt)
        replace VG := Lib.hid (VG.out.below hbl VG.out.lt)
        replace HW := Lib.hid (bel_trans HW.out hbl); clear hbl
        clear CX0 CX1 CX2 CY0 CY1 CY2 VX0 VX1 VX2 VF0 VF1 VF2 VF3 VG0 VG1 VG2 VG3
        have CX0 : w9.cell? ⟨w.heap.size, 0, none⟩ = some (.bool true) := CX.out.cell 0
        have CX1 : w9.cell? ⟨w.heap.size, 1, none⟩ = some (.slice A (limbs n).length c) := CX.out.cell 1
        have CX2 : w9.cell? ⟨w.heap.size, 2, none⟩ = some (.slice B (limbs d0).length d) := CX.out.cell 2
        have CY0 : w9.cell? ⟨w.heap.size + 1, 0, none⟩ = some (.bool false) := CY.out.cell 0
        have CY1 : w9.cell? ⟨w.heap.size + 1, 1, none⟩ = some (.slice A' (limbs m).length c') := CY.out.cell 1
        have CY2 : w9.cell? ⟨w.heap.size + 1, 2, none⟩ = some (.slice B' (limbs f0).length d') := CY.out.cell 2
        have VX0 : w9.cell? ⟨w2.heap.size, 0, none⟩ = some (.bool t.s) := VX.out.cell 0
        have VX1 : w9.cell? ⟨w2.heap.size, 1, none⟩ = some (.slice Ax (limbs t.n).length cx) := VX.out.cell 1
        have VX2 : w9.cell? ⟨w2.heap.size, 2, none⟩ = some (.slice Ay (limbs t.d).length cy) := VX.out.cell 2
        have VF0 : w9.cell? ⟨w4.heap.size, 0, none⟩ = some (.bool true) := VF.out.cell 0
        have VF1 : w9.cell? ⟨w4.heap.size, 1, none⟩ = some (.string (dec n)) := VF.out.cell 1
        have VF2 : w9.cell? ⟨w4.heap.size, 2, none⟩ = some (.string (dec d0)) := VF.out.cell 2
        have VF3 : w9.cell? ⟨w4.heap.size, 3, none⟩ = some (.bool false) := VF.out.cell 3
        have VG0 : w9.cell? ⟨w6.heap.size, 0, none⟩ = some (.bool false) := VG.out.cell 0
        have VG1 : w9.cell? ⟨w6.heap.size, 1, none⟩ = some (.string (dec m)) := VG.out.cell 1
        have VG2 : w9.cell? ⟨w6.heap.size, 2, none⟩ = some (.string (dec f0)) := VG.out.cell 2
        have VG3 : w9.cell? ⟨w6.heap.size, 3, none⟩ = some (.bool false) := VG.out.cell 3
        refine wpList_nil ?_
        go_wp2_with fail
        refine (refOver_any x _).mono ?_
        rintro e w7 ⟨rfl, hbl⟩
        replace R1 := Lib.hid (R1.out.below hbl)
        replace R2 := Lib.hid (R2.out.below hbl)
        replace R3 := Lib.hid (R3.out.below hbl)
        replace R4 := Lib.hid (R4.out.below hbl)
        replace Rx := Lib.hid (Rx.out.below hbl)
        replace HNx := Lib.hid (HNx.out.below hbl)
        replace Ry := Lib.hid (Ry.out.below hbl)
        replace HNy := Lib.hid (HNy.out.below hbl)
        replace CX := Lib.hid (CX.out.below hbl CX.out.lt)
        replace CY := Lib.hid (CY.out.below hbl CY.out.lt)
        replace VX := Lib.hid (VX.out.below hbl VX.out.lt)
        replace VF := Lib.hid (VF.out.below hbl VF.out.lt)
        replace VG := Lib.hid (VG.out.below hbl VG.out.lt)
        replace HW := Lib.hid (bel_trans HW.out hbl); clear hbl
        clear CX0 CX1 CX2 CY0 CY1 CY2 VX0 VX1 VX2 VF0 VF1 VF2 VF3 VG0 VG1 VG2 VG3
        have CX0 : w7.cell? ⟨w.heap.size, 0, none⟩ = some (.bool true) := CX.out.cell 0
        have CX1 : w7.cell? ⟨w.heap.size, 1, none⟩ = some (.slice A (limbs n).length c) := CX.out.cell 1
        have CX2 : w7.cell? ⟨w.heap.size, 2, none⟩ = some (.slice B (limbs d0).length d) := CX.out.cell 2
        have CY0 : w7.cell? ⟨w.heap.size + 1, 0, none⟩ = some (.bool false) := CY.out.cell 0
        have CY1 : w7.cell? ⟨w.heap.size + 1, 1, none⟩ = some (.slice A' (limbs m).length c') := CY.out.cell 1
        have CY2 : w7.cell? ⟨w.heap.size + 1, 2, none⟩ = some (.slice B' (limbs f0).length d') := CY.out.cell 2
        have VX0 : w7.cell? ⟨w2.heap.size, 0, none⟩ = some (.bool t.s) := VX.out.cell 0
        have VX1 : w7.cell? ⟨w2.heap.size, 1, none⟩ = some (.slice Ax (limbs t.n).length cx) := VX.out.cell 1
        have VX2 : w7.cell? ⟨w2.heap.size, 2, none⟩ = some (.slice Ay (limbs t.d).length cy) := VX.out.cell 2
        have VF0 : w7.cell? ⟨w4.heap.size, 0, none⟩ = some (.bool true) := VF.out.cell 0
        have VF1 : w7.cell? ⟨w4.heap.size, 1, none⟩ = some (.string (dec n)) := VF.out.cell 1
        have VF2 : w7.cell? ⟨w4.heap.size, 2, none⟩ = some (.string (dec d0)) := VF.out.cell 2
        have VF3 : w7.cell? ⟨w4.heap.size, 3, none⟩ = some (.bool false) := VF.out.cell 3
        have VG0 : w7.cell? ⟨w6.heap.size, 0, none⟩ = some (.bool false) := VG.out.cell 0
        have VG1 : w7.cell? ⟨w6.heap.size, 1, none⟩ = some (.string (dec m)) := VG.out.cell 1
        have VG2 : w7.cell? ⟨w6.heap.size, 2, none⟩ = some (.string (dec f0)) := VG.out.cell 2
        have VG3 : w7.cell? ⟨w6.heap.size, 3, none⟩ = some (.bool false) := VG.out.cell 3
        rw [HO.out]
        go_wp2_with fail
        refine (refOver_any y _).mono ?_
        rintro e w8 ⟨rfl, hbl⟩
        replace R1 := Lib.hid (R1.out.below hbl)
        replace R2 := Lib.hid (R2.out.below hbl)
        replace R3 := Lib.hid (R3.out.below hbl)
        replace R4 := Lib.hid (R4.out.below hbl)
        replace Rx := Lib.hid (Rx.out.below hbl)
        replace HNx := Lib.hid (HNx.out.below hbl)
        replace Ry := Lib.hid (Ry.out.below hbl)
        replace HNy := Lib.hid (HNy.out.below hbl)
        replace CX := Lib.hid (CX.out.below hbl CX.out.lt)
        replace CY := Lib.hid (CY.out.below hbl CY.out.lt)
        replace VX := Lib.hid (VX.out.below hbl VX.out.lt)
        replace VF := Lib.hid (VF.out.below hbl VF.out.lt)
        replace VG := Lib.hid (VG.out.below hbl VG.out.lt)
        replace HW := Lib.hid (bel_trans HW.out hbl); clear hbl
        clear CX0 CX1 CX2 CY0 CY1 CY2 VX0 VX1 VX2 VF0 VF1 VF2 VF3 VG0 VG1 VG2 VG3
        have CX0 : w8.cell? ⟨w.heap.size, 0, none⟩ = some (.bool true) := CX.out.cell 0
        have CX1 : w8.cell? ⟨w.heap.size, 1, none⟩ = some (.slice A (limbs n).length c) := CX.out.cell 1
        have CX2 : w8.cell? ⟨w.heap.size, 2, none⟩ = some (.slice B (limbs d0).length d) := CX.out.cell 2
        have CY0 : w8.cell? ⟨w.heap.size + 1, 0, none⟩ = some (.bool false) := CY.out.cell 0
        have CY1 : w8.cell? ⟨w.heap.size + 1, 1, none⟩ = some (.slice A' (limbs m).length c') := CY.out.cell 1
        have CY2 : w8.cell? ⟨w.heap.size + 1, 2, none⟩ = some (.slice B' (limbs f0).length d') := CY.out.cell 2
        have VX0 : w8.cell? ⟨w2.heap.size, 0, none⟩ = some (.bool t.s) := VX.out.cell 0
        have VX1 : w8.cell? ⟨w2.heap.size, 1, none⟩ = some (.slice Ax (limbs t.n).length cx) := VX.out.cell 1
        have VX2 : w8.cell? ⟨w2.heap.size, 2, none⟩ = some (.slice Ay (limbs t.d).length cy) := VX.out.cell 2
        have VF0 : w8.cell? ⟨w4.heap.size, 0, none⟩ = some (.bool true) := VF.out.cell 0
        have VF1 : w8.cell? ⟨w4.heap.size, 1, none⟩ = some (.string (dec n)) := VF.out.cell 1
        have VF2 : w8.cell? ⟨w4.heap.size, 2, none⟩ = some (.string (dec d0)) := VF.out.cell 2
        have VF3 : w8.cell? ⟨w4.heap.size, 3, none⟩ = some (.bool false) := VF.out.cell 3
        have VG0 : w8.cell? ⟨w6.heap.size, 0, none⟩ = some (.bool false) := VG.out.cell 0
        have VG1 : w8.cell? ⟨w6.heap.size, 1, none⟩ = some (.string (dec m)) := VG.out.cell 1
        have VG2 : w8.cell? ⟨w6.heap.size, 2, none⟩ = some (.string (dec f0)) := VG.out.cell 2
        have VG3 : w8.cell? ⟨w6.heap.size, 3, none⟩ = some (.bool false) := VG.out.cell 3
        rw [HO2.out]
        go_wp2_with fail
        refine (refCmp_bb x y _).mono ?_
        rintro e w9 ⟨rfl, hbl⟩
        replace R1 := Lib.hid (R1.out.below hbl)
        replace R2 := Lib.hid (R2.out.below hbl)
        replace R3 := Lib.hid (R3.out.below hbl)
        replace R4 := Lib.hid (R4.out.below hbl)
        replace Rx := Lib.hid (Rx.out.below hbl)
        replace HNx := Lib.hid (HNx.out.below hbl)
        replace Ry := Lib.hid (Ry.out.below hbl)
        replace HNy := Lib.hid (HNy.out.below hbl)
        replace CX := Lib.hid (CX.out.below hbl CX.out.lt)
        replace CY := Lib.hid (CY.out.below hbl CY.out.lt)
        replace VX := Lib.hid (VX.out.below hbl VX.out.lt)
        replace VF := Lib.hid (VF.out.below hbl VF.out.lt)
        replace VG := Lib.hid (VG.out.below hbl VG.out.lt)
        replace HW := Lib.hid (bel_trans HW.out hbl); clear hbl
        clear CX0 CX1 CX2 CY0 CY1 CY2 VX0 VX1 VX2 VF0 VF1 VF2 VF3 VG0 VG1 VG2 VG3
        have CX0 : w9.cell? ⟨w.heap.size, 0, none⟩ = some (.bool true) := CX.out.cell 0
        have CX1 : w9.cell? ⟨w.heap.size, 1, none⟩ = some (.slice A (limbs n).length c) := CX.out.cell 1
        have CX2 : w9.cell? ⟨w.heap.size, 2, none⟩ = some (.slice B (limbs d0).length d) := CX.out.cell 2
        have CY0 : w9.cell? ⟨w.heap.size + 1, 0, none⟩ = some (.bool false) := CY.out.cell 0
        have CY1 : w9.cell? ⟨w.heap.size + 1, 1, none⟩ = some (.slice A' (limbs m).length c') := CY.out.cell 1
        have CY2 : w9.cell? ⟨w.heap.size + 1, 2, none⟩ = some (.slice B' (limbs f0).length d') := CY.out.cell 2
        have VX0 : w9.cell? ⟨w2.heap.size, 0, none⟩ = some (.bool t.s) := VX.out.cell 0
        have VX1 : w9.cell? ⟨w2.heap.size, 1, none⟩ = some (.slice Ax (limbs t.n).length cx) := VX.out.cell 1
        have VX2 : w9.cell? ⟨w2.heap.size, 2, none⟩ = some (.slice Ay (limbs t.d).length cy) := VX.out.cell 2
        have VF0 : w9.cell? ⟨w4.heap.size, 0, none⟩ = some (.bool true) := VF.out.cell 0
        have VF1 : w9.cell? ⟨w4.heap.size, 1, none⟩ = some (.string (dec n)) := VF.out.cell 1
        have VF2 : w9.cell? ⟨w4.heap.size, 2, none⟩ = some (.string (dec d0)) := VF.out.cell 2
        have VF3 : w9.cell? ⟨w4.heap.size, 3, none⟩ = some (.bool false) := VF.out.cell 3
        have VG0 : w9.cell? ⟨w6.heap.size, 0, none⟩ = some (.bool false) := VG.out.cell 0
        have VG1 : w9.cell? ⟨w6.heap.size, 1, none⟩ = some (.string (dec m)) := VG.out.cell 1
        have VG2 : w9.cell? ⟨w6.heap.size, 2, none⟩ = some (.string (dec f0)) := VG.out.cell 2
        have VG3 : w9.cell? ⟨w6.heap.size, 3, none⟩ = some (.bool false) := VG.out.cell 3
        go_wp2
        go_ret
        exact ⟨rfl, HW.out⟩

set_option maxRecDepth 100000 in
set_option maxHeartbeats 1000000 in
theorem orders_ft (s s' : Bool) (A B A' B' : Option Addr) (c d c' d' : Nat) (x0 y0 x0' y0' : List Nat) (n d0 : Nat) (m f0 : Nat) (w : World) (h1 : RdL w A x0) (h2 : RdL w B y0) (h3 : RdL w A' x0') (h4 : RdL w B' y0') (k1 : x0.length ≤ c) (k2 : y0.length ≤ d) (k3 : x0'.length ≤ c') (k4 : y0'.length ≤ d') (m1 : Lim x0) (m2 : Lim y0) (m3 : Lim x0') (m4 : Lim y0') (hs1 : s = false) (hs2 : s' = true) (hn : n < Top) (hd : d0 < Top) (hq : QR ⟨s, n, d0⟩) (hm : m < Top) (hf : f0 < Top) (hp : QR ⟨s', m, f0⟩) (ho : n * f0 < Top) (ho2 : m * d0 < Top) (e1 : few x0 = (limbs n)) (e2 : few y0 = (limbs d0)) (e3 : few x0' = (limbs m)) (e4 : few y0' = (limbs f0)) :
    Calls Try.prog 6 #[.agg #[.bool s, .slice A x0.length c, .slice B y0.length d], .agg #[.bool s', .slice A' x0'.length c', .slice B' y0'.length d']] w (RetT w) := by
  subst hs1 hs2
  have HR := Lib.hid ((rightB_q (s := false) hn hd).2 hq)
  have HQ := Lib.hid (And.intro hn (And.intro hd hq)); clear hn hd hq
  have HRB := Lib.hid ((rightB_q (s := true) hm hf).2 hp)
  have HP := Lib.hid (And.intro hm (And.intro hf hp)); clear hm hf hp
  obtain ⟨t, ht⟩ : ∃ t, redQ false (n / d0) 1 = t := ⟨_, rfl⟩
  have HT := Lib.hid ht; clear ht
  have HTF := Lib.hid (redQ_fit (lt_top (Nat.div_le_self n d0) HQ.out.1) (small_top (by decide)) (by decide) HT.out)
  obtain ⟨x, hx⟩ : ∃ x, n * f0 = x := ⟨_, rfl⟩
  obtain ⟨y, hy⟩ : ∃ y, m * d0 = y := ⟨_, rfl⟩
  rw [hx] at ho
  rw [hy] at ho2
  have HXY := Lib.hid (And.intro hx hy); clear hx hy
  have HO := Lib.hid (show decide (Top ≤ x) = false by exact decide_eq_false (by omega))
  have HO2 := Lib.hid (show decide (Top ≤ y) = false by exact decide_eq_false (by omega))
  have HF := Lib.hid ho; clear ho
  have HF2 := Lib.hid ho2; clear ho2
  have R1 := Lib.hid (show RdL w A (limbs n) by rw [← e1]; exact h1.take 18); clear h1
  have R2 := Lib.hid (show RdL w B (limbs d0) by rw [← e2]; exact h2.take 18); clear h2
  have R3 := Lib.hid (show RdL w A' (limbs m) by rw [← e3]; exact h3.take 18); clear h3
  have R4 := Lib.hid (show RdL w B' (limbs f0) by rw [← e4]; exact h4.take 18); clear h4
  have L18 := Lib.hid (show (limbs n).length ≤ 18 ∧ (limbs d0).length ≤ 18 ∧ (limbs m).length ≤ 18 ∧ (limbs f0).length ≤ 18 by rw [← e1, ← e2, ← e3, ← e4]; exact ⟨few_le _, few_le _, few_le _, few_le _⟩)
  have KC := Lib.hid (show (limbs n).length ≤ c ∧ (limbs d0).length ≤ d ∧ (limbs m).length ≤ c' ∧ (limbs f0).length ≤ d' by rw [← e1, ← e2, ← e3, ← e4]; exact ⟨Nat.le_trans (few_short _) k1, Nat.le_trans (few_short _) k2, Nat.le_trans (few_short _) k3, Nat.le_trans (few_short _) k4⟩)
  have M := Lib.hid (show Lim (limbs n) ∧ Lim (limbs d0) ∧ Lim (limbs m) ∧ Lim (limbs f0) by rw [← e1, ← e2, ← e3, ← e4]; exact ⟨few_lim m1, few_lim m2, few_lim m3, few_lim m4⟩); clear m1 m2 m3 m4
  have F := Lib.hid (And.intro (And.intro k1 (And.intro k2 (And.intro e1 e2))) (And.intro k3 (And.intro k4 (And.intro e3 e4)))); clear k1 k2 k3 k4 e1 e2 e3 e4
  obtain ⟨wa, hwa⟩ : ∃ wa, wa = (w.alloc (.cells #[.bool false, .slice A x0.length c, .slice B y0.length d] 25)).alloc (.cells #[.bool true, .slice A' x0'.length c', .slice B' y0'.length d'] 25) := ⟨_, rfl⟩
  have hbl : Below w.heap.size w wa := by rw [hwa]; exact bel_alloc (bel_alloc (bel_refl _) _) _
  have CX : Blk wa (w.heap.size) 25 #[.bool false, .slice A x0.length c, .slice B y0.length d] := by
    have hz := Blk.new (w) 25 #[.bool false, .slice A x0.length c, .slice B y0.length d]
    rw [hwa]
    exact (hz.alloc _)
  have CY : Blk wa (w.heap.size + 1) 25 #[.bool true, .slice A' x0'.length c', .slice B' y0'.length d'] := by
    have hz := Blk.new (w.alloc (.cells #[.bool false, .slice A x0.length c, .slice B y0.length d] 25)) 25 #[.bool true, .slice A' x0'.length c', .slice B' y0'.length d']
    rw [World.size_alloc] at hz
    rw [hwa]
    exact hz
  replace R1 := Lib.hid (R1.out.below hbl)
  replace R2 := Lib.hid (R2.out.below hbl)
  replace R3 := Lib.hid (R3.out.below hbl)
  replace R4 := Lib.hid (R4.out.below hbl)
  have HW := Lib.hid hbl; clear hbl
  replace CX := Lib.hid CX
  replace CY := Lib.hid CY
  go_enter Try.func6, Try.ntmps6
  go_wp2_with fail
  rw [← hwa]
  clear hwa
  refine wp_region_typed 4 (TOf [VIs (.agg #[.bool false, .slice A x0.length c, .slice B y0.length d]),
      VIs (.agg #[.bool false, .slice A (limbs n).length c, .slice B (limbs d0).length d]),
      VIs (.agg #[.bool true, .slice A' x0'.length c', .slice B' y0'.length d']),
      VIs (.agg #[.bool true, .slice A' (limbs m).length c', .slice B' (limbs f0).length d'])]) (by kernel_rfl) (by kernel_rfl) (by kernel_rfl) (LiftAll.at_ (.cons (VIs.lift _) (.cons (VIs.lift _) (.cons (VIs.lift _) (.cons (VIs.lift _) .nil))))) (steps_all (steps_cons ?_ (steps_cons ?_ (steps_cons ?_ (steps_cons ?_ steps_zero))))) ?fin
  · intro a0 w9 K9 hF hB hK hC
    have b2 := hF.base (k := 2) (v := .pointer (some ⟨w.heap.size, 0, none⟩)) (by kernel_rfl) rfl
    have x90 : w9.cell? ⟨w.heap.size, 0, none⟩ = some (.bool false) := (CX.out.below hB CX.out.lt).cell 0
    have x91 : w9.cell? ⟨w.heap.size, 1, none⟩ = some (.slice A x0.length c) := (CX.out.below hB CX.out.lt).cell 1
    have x92 : w9.cell? ⟨w.heap.size, 2, none⟩ = some (.slice B y0.length d) := (CX.out.below hB CX.out.lt).cell 2
    clear hF hB hK
    go_simp
    exact hC _ _ (bel_refl _) fun _ _ => rfl
  · intro a0 w9 K9 hF hB hK hC
    obtain ⟨v14, e14, z14⟩ := dep hK 0 (g := .data) (j := 0) (k := 14) rfl rfl rfl
    have z14 : v14 = .agg #[.bool false, .slice A x0.length c, .slice B y0.length d] := z14
    subst z14
    have HB9 := Lib.hid hB
    clear hF hB hK
    go_simp
    refine (fewQ_is false A B c d x0 y0 (limbs n) (limbs d0) _ F.out.1.1 F.out.1.2.1 F.out.1.2.2.1 F.out.1.2.2.2).mono ?_
    rintro e w7 ⟨rfl, hbl⟩
    exact hC _ _ hbl fun _ _ => rfl
  · intro a0 w9 K9 hF hB hK hC
    have b3 := hF.base (k := 3) (v := .pointer (some ⟨w.heap.size + 1, 0, none⟩)) (by kernel_rfl) rfl
    have x90 : w9.cell? ⟨w.heap.size + 1, 0, none⟩ = some (.bool true) := (CY.out.below hB CY.out.lt).cell 0
    have x91 : w9.cell? ⟨w.heap.size + 1, 1, none⟩ = some (.slice A' x0'.length c') := (CY.out.below hB CY.out.lt).cell 1
    have x92 : w9.cell? ⟨w.heap.size + 1, 2, none⟩ = some (.slice B' y0'.length d') := (CY.out.below hB CY.out.lt).cell 2
    clear hF hB hK
    go_simp
    exact hC _ _ (bel_refl _) fun _ _ => rfl
  · intro a0 w9 K9 hF hB hK hC
    obtain ⟨v16, e16, z16⟩ := dep hK 0 (g := .data) (j := 2) (k := 16) rfl rfl rfl
    have z16 : v16 = .agg #[.bool true, .slice A' x0'.length c', .slice B' y0'.length d'] := z16
    subst z16
    have HB9 := Lib.hid hB
    clear hF hB hK
    go_simp
    refine (fewQ_is true A' B' c' d' x0' y0' (limbs m) (limbs f0) _ F.out.2.1 F.out.2.2.1 F.out.2.2.2.1 F.out.2.2.2.2).mono ?_
    rintro e w7 ⟨rfl, hbl⟩
    exact hC _ _ hbl fun _ _ => rfl
  case fin =>
    intro a0 w9 hF hB hK
    have b2 := hF.base (k := 2) (v := .pointer (some ⟨w.heap.size, 0, none⟩)) (by kernel_rfl) rfl
    have b3 := hF.base (k := 3) (v := .pointer (some ⟨w.heap.size + 1, 0, none⟩)) (by kernel_rfl) rfl
    have hsz := hF.size
    have hdf := hF.defers
    clear hF
    obtain ⟨v15, e15, z15⟩ := known hK 1 (k := 15) (by decide) rfl
    have z15 : v15 = .agg #[.bool false, .slice A (limbs n).length c, .slice B (limbs d0).length d] := z15
    subst z15
    obtain ⟨v17, e17, z17⟩ := known hK 3 (k := 17) (by decide) rfl
    have z17 : v17 = .agg #[.bool true, .slice A' (limbs m).length c', .slice B' (limbs f0).length d'] := z17
    subst z17
    clear hK
    obtain ⟨⟨l0⟩, df⟩ := a0
    have hs0 : l0.length = 131 := hsz
    clear hsz
    replace hdf : df = _ := hdf
    subst hdf
    obtain ⟨u, rfl⟩ := lits_131 hs0
    clear hs0
    have q2 : u 2 = _ := Option.some.inj b2
    clear b2
    have q3 : u 3 = _ := Option.some.inj b3
    clear b3
    have q15 : u 15 = _ := Option.some.inj e15
    clear e15
    have q17 : u 17 = _ := Option.some.inj e17
    clear e17
    rw [q2, q3, q15, q17]
    clear q2 q3 q15 q17
    have hbl := hB; clear hB
    replace R1 := Lib.hid (R1.out.below hbl)
    replace R2 := Lib.hid (R2.out.below hbl)
    replace R3 := Lib.hid (R3.out.below hbl)
    replace R4 := Lib.hid (R4.out.below hbl)
    replace CX := Lib.hid (CX.out.below hbl CX.out.lt)
    replace CY := Lib.hid (CY.out.below hbl CY.out.lt)
    replace HW := Lib.hid (bel_trans HW.out hbl); clear hbl
    simp only [List.drop_succ_cons, List.drop_zero]
    have pd0 := CX.out.cell 0
    have pf0 := CX.out.frozen 0
    have pd1 := CX.out.cell 1
    have pf1 := CX.out.frozen 1
    have pd2 := CX.out.cell 2
    have pf2 := CX.out.frozen 2
    have qd0 := CY.out.cell 0
    have qf0 := CY.out.frozen 0
    have qd1 := CY.out.cell 1
    have qf1 := CY.out.frozen 1
    have qd2 := CY.out.cell 2
    have qf2 := CY.out.frozen 2
    go_upto_region 2 with fail
    clear pd0 pf0 pd1 pf1 pd2 pf2 qd0 qf0 qd1 qf1 qd2 qf2
    obtain ⟨wf, hwf⟩ : ∃ wf, wf = ((((((w9.setCell ⟨w.heap.size, 0, none⟩ (.bool false)).setCell ⟨w.heap.size, 1, none⟩ (.slice A (limbs n).length c)).setCell ⟨w.heap.size, 2, none⟩ (.slice B (limbs d0).length d)).setCell ⟨w.heap.size + 1, 0, none⟩ (.bool true)).setCell ⟨w.heap.size + 1, 1, none⟩ (.slice A' (limbs m).length c')).setCell ⟨w.heap.size + 1, 2, none⟩ (.slice B' (limbs f0).length d')) := ⟨_, rfl⟩
    rw [← hwf]
    replace R1 := Lib.hid (show RdL wf _ _ by rw [hwf]; exact RdL.set3 ((((CY.out).far (p := ⟨w.heap.size, 0, none⟩) (by simp) _).far (p := ⟨w.heap.size, 1, none⟩) (by simp) _).far (p := ⟨w.heap.size, 2, none⟩) (by simp) _) (RdL.set3 (CX.out) (R1.out) _ _ _) _ _ _)
    replace R2 := Lib.hid (show RdL wf _ _ by rw [hwf]; exact RdL.set3 ((((CY.out).far (p := ⟨w.heap.size, 0, none⟩) (by simp) _).far (p := ⟨w.heap.size, 1, none⟩) (by simp) _).far (p := ⟨w.heap.size, 2, none⟩) (by simp) _) (RdL.set3 (CX.out) (R2.out) _ _ _) _ _ _)
    replace R3 := Lib.hid (show RdL wf _ _ by rw [hwf]; exact RdL.set3 ((((CY.out).far (p := ⟨w.heap.size, 0, none⟩) (by simp) _).far (p := ⟨w.heap.size, 1, none⟩) (by simp) _).far (p := ⟨w.heap.size, 2, none⟩) (by simp) _) (RdL.set3 (CX.out) (R3.out) _ _ _) _ _ _)
    replace R4 := Lib.hid (show RdL wf _ _ by rw [hwf]; exact RdL.set3 ((((CY.out).far (p := ⟨w.heap.size, 0, none⟩) (by simp) _).far (p := ⟨w.heap.size, 1, none⟩) (by simp) _).far (p := ⟨w.heap.size, 2, none⟩) (by simp) _) (RdL.set3 (CX.out) (R4.out) _ _ _) _ _ _)
    have CX_ := Lib.hid (show Blk wf (w.heap.size) 25 #[.bool false, .slice A (limbs n).length c, .slice B (limbs d0).length d] by rw [hwf]; exact ((((((CX.out).put 0 (.bool false)).put 1 (.slice A (limbs n).length c)).put 2 (.slice B (limbs d0).length d)).far (p := ⟨w.heap.size + 1, 0, none⟩) (by simp) _).far (p := ⟨w.heap.size + 1, 1, none⟩) (by simp) _).far (p := ⟨w.heap.size + 1, 2, none⟩) (by simp) _)
    have CY_ := Lib.hid (show Blk wf (w.heap.size + 1) 25 #[.bool true, .slice A' (limbs m).length c', .slice B' (limbs f0).length d'] by rw [hwf]; exact ((((((CY.out).far (p := ⟨w.heap.size, 0, none⟩) (by simp) _).far (p := ⟨w.heap.size, 1, none⟩) (by simp) _).far (p := ⟨w.heap.size, 2, none⟩) (by simp) _).put 0 (.bool true)).put 1 (.slice A' (limbs m).length c')).put 2 (.slice B' (limbs f0).length d'))
    replace CX := CX_; clear CX_
    replace CY := CY_; clear CY_
    replace HW := Lib.hid (show Below w.heap.size w wf by rw [hwf]; exact bel_set (p := ⟨w.heap.size + 1, 2, none⟩) (bel_set (p := ⟨w.heap.size + 1, 1, none⟩) (bel_set (p := ⟨w.heap.size + 1, 0, none⟩) (bel_set (p := ⟨w.heap.size, 2, none⟩) (bel_set (p := ⟨w.heap.size, 1, none⟩) (bel_set (p := ⟨w.heap.size, 0, none⟩) (HW.out) (by show w.heap.size ≤ w.heap.size; omega) _) (by show w.heap.size ≤ w.heap.size; omega) _) (by show w.heap.size ≤ w.heap.size; omega) _) (by show w.heap.size ≤ w.heap.size + 1; omega) _) (by show w.heap.size ≤ w.heap.size + 1; omega) _) (by show w.heap.size ≤ w.heap.size + 1; omega) _)
    clear hwf
    have CX0 : wf.cell? ⟨w.heap.size, 0, none⟩ = some (.bool false) := CX.out.cell 0
    have CX1 : wf.cell? ⟨w.heap.size, 1, none⟩ = some (.slice A (limbs n).length c) := CX.out.cell 1
    have CX2 : wf.cell? ⟨w.heap.size, 2, none⟩ = some (.slice B (limbs d0).length d) := CX.out.cell 2
    have CY0 : wf.cell? ⟨w.heap.size + 1, 0, none⟩ = some (.bool true) := CY.out.cell 0
    have CY1 : wf.cell? ⟨w.heap.size + 1, 1, none⟩ = some (.slice A' (limbs m).length c') := CY.out.cell 1
    have CY2 : wf.cell? ⟨w.heap.size + 1, 2, none⟩ = some (.slice B' (limbs f0).length d') := CY.out.cell 2
    go_wp2_with fail
    refine (qcmp_is (v := 1) A B A' B' c d c' d' ⟨false, n, d0⟩ ⟨true, m, f0⟩ _ R1.out R2.out R3.out R4.out KC.out.1 KC.out.2.1 KC.out.2.2.1 KC.out.2.2.2 HQ.out.1 HQ.out.2.1 HP.out.1 HP.out.2.1 HQ.out.2.2 HP.out.2.2 (by show n * f0 < Top ∧ m * d0 < Top; rw [HXY.out.1, HXY.out.2]; exact ⟨HF.out, HF2.out⟩) (by show cmpS false true (n * f0) (m * d0) = _; rw [HXY.out.1, HXY.out.2]; exact cmpS_ft x y)).mono ?_
    rintro e w1 ⟨rfl, hbl⟩
    replace R1 := Lib.hid (R1.out.below hbl)
    replace R2 := Lib.hid (R2.out.below hbl)
    replace R3 := Lib.hid (R3.out.below hbl)
    replace R4 := Lib.hid (R4.out.below hbl)
    replace CX := Lib.hid (CX.out.below hbl CX.out.lt)
    replace CY := Lib.hid (CY.out.below hbl CY.out.lt)
    replace HW := Lib.hid (bel_trans HW.out hbl); clear hbl
    clear CX0 CX1 CX2 CY0 CY1 CY2
    have CX0 : w1.cell? ⟨w.heap.size, 0, none⟩ = some (.bool false) := CX.out.cell 0
    have CX1 : w1.cell? ⟨w.heap.size, 1, none⟩ = some (.slice A (limbs n).length c) := CX.out.cell 1
    have CX2 : w1.cell? ⟨w.heap.size, 2, none⟩ = some (.slice B (limbs d0).length d) := CX.out.cell 2
    have CY0 : w1.cell? ⟨w.heap.size + 1, 0, none⟩ = some (.bool true) := CY.out.cell 0
    have CY1 : w1.cell? ⟨w.heap.size + 1, 1, none⟩ = some (.slice A' (limbs m).length c') := CY.out.cell 1
    have CY2 : w1.cell? ⟨w.heap.size + 1, 2, none⟩ = some (.slice B' (limbs f0).length d') := CY.out.cell 2
    go_wp2_with fail
    refine (trunc_q ⟨false, n, d0⟩ A B c d _ R1.out R2.out KC.out.1 KC.out.2.1 HQ.out.1 HQ.out.2.1 HQ.out.2.2 HT.out).mono ?_
    rintro e w2 ⟨vx, vy, rfl, hnx, hny, hbl⟩
    replace R1 := Lib.hid (R1.out.below hbl)
    replace R2 := Lib.hid (R2.out.below hbl)
    replace R3 := Lib.hid (R3.out.below hbl)
    replace R4 := Lib.hid (R4.out.below hbl)
    replace CX := Lib.hid (CX.out.below hbl CX.out.lt)
    replace CY := Lib.hid (CY.out.below hbl CY.out.lt)
    replace HW := Lib.hid (bel_trans HW.out hbl); clear hbl
    clear CX0 CX1 CX2 CY0 CY1 CY2
    have CX0 : w2.cell? ⟨w.heap.size, 0, none⟩ = some (.bool false) := CX.out.cell 0
    have CX1 : w2.cell? ⟨w.heap.size, 1, none⟩ = some (.slice A (limbs n).length c) := CX.out.cell 1
    have CX2 : w2.cell? ⟨w.heap.size, 2, none⟩ = some (.slice B (limbs d0).length d) := CX.out.cell 2
    have CY0 : w2.cell? ⟨w.heap.size + 1, 0, none⟩ = some (.bool true) := CY.out.cell 0
    have CY1 : w2.cell? ⟨w.heap.size + 1, 1, none⟩ = some (.slice A' (limbs m).length c') := CY.out.cell 1
    have CY2 : w2.cell? ⟨w.heap.size + 1, 2, none⟩ = some (.slice B' (limbs f0).length d') := CY.out.cell 2
    have HNx := Lib.hid hnx; clear hnx
    obtain ⟨Ax, cx, rfl, hcx, hrx⟩ := HNx.out.row
    have Rx := Lib.hid hrx; have HCx := Lib.hid hcx; clear hrx hcx
    have HNy := Lib.hid hny; clear hny
    obtain ⟨Ay, cy, rfl, hcy, hry⟩ := HNy.out.row
    have Ry := Lib.hid hry; have HCy := Lib.hid hcy; clear hry hcy
    go_upto_region 4 with fail
    obtain ⟨wm, hwm⟩ : ∃ wm, wm = w2.alloc (.cells #[.bool t.s, .slice Ax (limbs t.n).length cx, .slice Ay (limbs t.d).length cy] 25) := ⟨_, rfl⟩
    rw [← hwm]
    have hbl : Below w2.heap.size w2 wm := by rw [hwm]; exact bel_alloc (bel_refl _) _
    have VX : Blk wm (w2.heap.size) 25 #[.bool t.s, .slice Ax (limbs t.n).length cx, .slice Ay (limbs t.d).length cy] := by
      have hz := Blk.new (w2) 25 #[.bool t.s, .slice Ax (limbs t.n).length cx, .slice Ay (limbs t.d).length cy]
      rw [hwm]
      exact hz
    clear hwm
    replace R1 := Lib.hid (R1.out.below hbl)
    replace R2 := Lib.hid (R2.out.below hbl)
    replace R3 := Lib.hid (R3.out.below hbl)
    replace R4 := Lib.hid (R4.out.below hbl)
    replace Rx := Lib.hid (Rx.out.below hbl)
    replace HNx := Lib.hid (HNx.out.below hbl)
    replace Ry := Lib.hid (Ry.out.below hbl)
    replace HNy := Lib.hid (HNy.out.below hbl)
    replace CX := Lib.hid (CX.out.below hbl CX.out.lt)
    replace CY := Lib.hid (CY.out.below hbl CY.out.lt)
    replace HW := Lib.hid (bel_trans HW.out hbl); clear hbl
    replace VX := Lib.hid VX
    clear CX0 CX1 CX2 CY0 CY1 CY2
    have CX0 : wm.cell? ⟨w.heap.size, 0, none⟩ = some (.bool false) := CX.out.cell 0
    have CX1 : wm.cell? ⟨w.heap.size, 1, none⟩ = some (.slice A (limbs n).length c) := CX.out.cell 1
    have CX2 : wm.cell? ⟨w.heap.size, 2, none⟩ = some (.slice B (limbs d0).length d) := CX.out.cell 2
    have CY0 : wm.cell? ⟨w.heap.size + 1, 0, none⟩ = some (.bool true) := CY.out.cell 0
    have CY1 : wm.cell? ⟨w.heap.size + 1, 1, none⟩ = some (.slice A' (limbs m).length c') := CY.out.cell 1
    have CY2 : wm.cell? ⟨w.heap.size + 1, 2, none⟩ = some (.slice B' (limbs f0).length d') := CY.out.cell 2
    have VX0 : wm.cell? ⟨w2.heap.size, 0, none⟩ = some (.bool t.s) := VX.out.cell 0
    have VX1 : wm.cell? ⟨w2.heap.size, 1, none⟩ = some (.slice Ax (limbs t.n).length cx) := VX.out.cell 1
    have VX2 : wm.cell? ⟨w2.heap.size, 2, none⟩ = some (.slice Ay (limbs t.d).length cy) := VX.out.cell 2
    go_wp2_with fail
    refine (refRatRight_is false A B c d (limbs n) (limbs d0) _ R1.out R2.out M.out.1 M.out.2.1 L18.out.1 L18.out.2.1 HR.out).mono ?_
    rintro e w3 ⟨rfl, hbl⟩
    replace R1 := Lib.hid (R1.out.below hbl)
    replace R2 := Lib.hid (R2.out.below hbl)
    replace R3 := Lib.hid (R3.out.below hbl)
    replace R4 := Lib.hid (R4.out.below hbl)
    replace Rx := Lib.hid (Rx.out.below hbl)
    replace HNx := Lib.hid (HNx.out.below hbl)
    replace Ry := Lib.hid (Ry.out.below hbl)
    replace HNy := Lib.hid (HNy.out.below hbl)
    replace CX := Lib.hid (CX.out.below hbl CX.out.lt)
    replace CY := Lib.hid (CY.out.below hbl CY.out.lt)
    replace VX := Lib.hid (VX.out.below hbl VX.out.lt)
    replace HW := Lib.hid (bel_trans HW.out hbl); clear hbl
    clear CX0 CX1 CX2 CY0 CY1 CY2 VX0 VX1 VX2
    have CX0 : w3.cell? ⟨w.heap.size, 0, none⟩ = some (.bool false) := CX.out.cell 0
    have CX1 : w3.cell? ⟨w.heap.size, 1, none⟩ = some (.slice A (limbs n).length c) := CX.out.cell 1
    have CX2 : w3.cell? ⟨w.heap.size, 2, none⟩ = some (.slice B (limbs d0).length d) := CX.out.cell 2
    have CY0 : w3.cell? ⟨w.heap.size + 1, 0, none⟩ = some (.bool true) := CY.out.cell 0
    have CY1 : w3.cell? ⟨w.heap.size + 1, 1, none⟩ = some (.slice A' (limbs m).length c') := CY.out.cell 1
    have CY2 : w3.cell? ⟨w.heap.size + 1, 2, none⟩ = some (.slice B' (limbs f0).length d') := CY.out.cell 2
    have VX0 : w3.cell? ⟨w2.heap.size, 0, none⟩ = some (.bool t.s) := VX.out.cell 0
    have VX1 : w3.cell? ⟨w2.heap.size, 1, none⟩ = some (.slice Ax (limbs t.n).length cx) := VX.out.cell 1
    have VX2 : w3.cell? ⟨w2.heap.size, 2, none⟩ = some (.slice Ay (limbs t.d).length cy) := VX.out.cell 2
    go_wp2_with fail
    refine (refOf_any false A B c d n d0 _ R1.out R2.out HQ.out.1 HQ.out.2.1).mono ?_
    rintro e w4 ⟨rfl, hbl⟩
    replace R1 := Lib.hid (R1.out.below hbl)
    replace R2 := Lib.hid (R2.out.below hbl)
    replace R3 := Lib.hid (R3.out.below hbl)
    replace R4 := Lib.hid (R4.out.below hbl)
    replace Rx := Lib.hid (Rx.out.below hbl)
    replace HNx := Lib.hid (HNx.out.below hbl)
    replace Ry := Lib.hid (Ry.out.below hbl)
    replace HNy := Lib.hid (HNy.out.below hbl)
    replace CX := Lib.hid (CX.out.below hbl CX.out.lt)
    replace CY := Lib.hid (CY.out.below hbl CY.out.lt)
    replace VX := Lib.hid (VX.out.below hbl VX.out.lt)
    replace HW := Lib.hid (bel_trans HW.out hbl); clear hbl
    clear CX0 CX1 CX2 CY0 CY1 CY2 VX0 VX1 VX2
    have CX0 : w4.cell? ⟨w.heap.size, 0, none⟩ = some (.bool false) := CX.out.cell 0
    have CX1 : w4.cell? ⟨w.heap.size, 1, none⟩ = some (.slice A (limbs n).length c) := CX.out.cell 1
    have CX2 : w4.cell? ⟨w.heap.size, 2, none⟩ = some (.slice B (limbs d0).length d) := CX.out.cell 2
    have CY0 : w4.cell? ⟨w.heap.size + 1, 0, none⟩ = some (.bool true) := CY.out.cell 0
    have CY1 : w4.cell? ⟨w.heap.size + 1, 1, none⟩ = some (.slice A' (limbs m).length c') := CY.out.cell 1
    have CY2 : w4.cell? ⟨w.heap.size + 1, 2, none⟩ = some (.slice B' (limbs f0).length d') := CY.out.cell 2
    have VX0 : w4.cell? ⟨w2.heap.size, 0, none⟩ = some (.bool t.s) := VX.out.cell 0
    have VX1 : w4.cell? ⟨w2.heap.size, 1, none⟩ = some (.slice Ax (limbs t.n).length cx) := VX.out.cell 1
    have VX2 : w4.cell? ⟨w2.heap.size, 2, none⟩ = some (.slice Ay (limbs t.d).length cy) := VX.out.cell 2
    go_upto_region 7 with fail
    obtain ⟨wn, hwn⟩ : ∃ wn, wn = w4.alloc (.cells #[.bool false, .string (dec n), .string (dec d0), .bool false] 49) := ⟨_, rfl⟩
    rw [← hwn]
    have hbl : Below w4.heap.size w4 wn := by rw [hwn]; exact bel_alloc (bel_refl _) _
    have VF : Blk wn (w4.heap.size) 49 #[.bool false, .string (dec n), .string (dec d0), .bool false] := by
      have hz := Blk.new (w4) 49 #[.bool false, .string (dec n), .string (dec d0), .bool false]
      rw [hwn]
      exact hz
    clear hwn
    replace R1 := Lib.hid (R1.out.below hbl)
    replace R2 := Lib.hid (R2.out.below hbl)
    replace R3 := Lib.hid (R3.out.below hbl)
    replace R4 := Lib.hid (R4.out.below hbl)
    replace Rx := Lib.hid (Rx.out.below hbl)
    replace HNx := Lib.hid (HNx.out.below hbl)
    replace Ry := Lib.hid (Ry.out.below hbl)
    replace HNy := Lib.hid (HNy.out.below hbl)
    replace CX := Lib.hid (CX.out.below hbl CX.out.lt)
    replace CY := Lib.hid (CY.out.below hbl CY.out.lt)
    replace VX := Lib.hid (VX.out.below hbl VX.out.lt)
    replace HW := Lib.hid (bel_trans HW.out hbl); clear hbl
    replace VF := Lib.hid VF
    clear CX0 CX1 CX2 CY0 CY1 CY2 VX0 VX1 VX2
    have CX0 : wn.cell? ⟨w.heap.size, 0, none⟩ = some (.bool false) := CX.out.cell 0
    have CX1 : wn.cell? ⟨w.heap.size, 1, none⟩ = some (.slice A (limbs n).length c) := CX.out.cell 1
    have CX2 : wn.cell? ⟨w.heap.size, 2, none⟩ = some (.slice B (limbs d0).length d) := CX.out.cell 2
    have CY0 : wn.cell? ⟨w.heap.size + 1, 0, none⟩ = some (.bool true) := CY.out.cell 0
    have CY1 : wn.cell? ⟨w.heap.size + 1, 1, none⟩ = some (.slice A' (limbs m).length c') := CY.out.cell 1
    have CY2 : wn.cell? ⟨w.heap.size + 1, 2, none⟩ = some (.slice B' (limbs f0).length d') := CY.out.cell 2
    have VX0 : wn.cell? ⟨w2.heap.size, 0, none⟩ = some (.bool t.s) := VX.out.cell 0
    have VX1 : wn.cell? ⟨w2.heap.size, 1, none⟩ = some (.slice Ax (limbs t.n).length cx) := VX.out.cell 1
    have VX2 : wn.cell? ⟨w2.heap.size, 2, none⟩ = some (.slice Ay (limbs t.d).length cy) := VX.out.cell 2
    have VF0 : wn.cell? ⟨w4.heap.size, 0, none⟩ = some (.bool false) := VF.out.cell 0
    have VF1 : wn.cell? ⟨w4.heap.size, 1, none⟩ = some (.string (dec n)) := VF.out.cell 1
    have VF2 : wn.cell? ⟨w4.heap.size, 2, none⟩ = some (.string (dec d0)) := VF.out.cell 2
    have VF3 : wn.cell? ⟨w4.heap.size, 3, none⟩ = some (.bool false) := VF.out.cell 3
    have hfd := fun W => field_q (dec (n / d0)) (dec (n % d0)) W
    refine wp_region_typedG 21 (TOf [VIs (.int .i64 0),
        VIs (.bool false),
        VIs (.bool false),
        VIs (.agg #[.bool t.s, .slice Ax (limbs t.n).length cx, .slice Ay (limbs t.d).length cy]),
        VIs (.pointer (some ⟨w4.heap.size, 0, none⟩)),
        VIs (.bool false),
        VIs (.pointer (some ⟨w4.heap.size, 1, none⟩)),
        VIs (.string (dec n)),
        VIs (.pointer (some ⟨w4.heap.size, 2, none⟩)),
        VIs (.string (dec d0)),
        VIs (.agg #[.string (dec (n / d0)), .string (dec (n % d0))]),
        VIs (.string (dec (n / d0))),
        VIs (.agg #[.bool false, .string (dec (n / d0)), .string ⟨#[49]⟩, .bool false]),
        VIs (.agg #[.bool t.s, .string (dec t.n), .string (dec t.d), .bool false]),
        VIs (.bool true),
        VIs (.bool false),
        VIs (.bool false),
        VIs (.bool false),
        VIs (.bool true),
        VIs (.bool false),
        VIs (.bool false)]) (by kernel_rfl) (by kernel_rfl) (by kernel_rfl) (LiftAll.at_ (.cons (VIs.lift _) (.cons (VIs.lift _) (.cons (VIs.lift _) (.cons (VIs.lift _) (.cons (VIs.lift _) (.cons (VIs.lift _) (.cons (VIs.lift _) (.cons (VIs.lift _) (.cons (VIs.lift _) (.cons (VIs.lift _) (.cons (VIs.lift _) (.cons (VIs.lift _) (.cons (VIs.lift _) (.cons (VIs.lift _) (.cons (VIs.lift _) (.cons (VIs.lift _) (.cons (VIs.lift _) (.cons (VIs.lift _) (.cons (VIs.lift _) (.cons (VIs.lift _) (.cons (VIs.lift _) .nil)))))))))))))))))))))) (stepsG_all (stepsG_cons ?_ (stepsG_cons ?_ (stepsG_cons ?_ (stepsG_cons ?_ (stepsG_cons ?_ (stepsG_cons ?_ (stepsG_cons ?_ (stepsG_cons ?_ (stepsG_cons ?_ (stepsG_cons ?_ (stepsG_cons ?_ (stepsG_cons ?_ (stepsG_cons ?_ (stepsG_cons ?_ (stepsG_cons ?_ (stepsG_cons ?_ (stepsG_cons ?_ (stepsG_cons ?_ (stepsG_cons ?_ (stepsG_cons ?_ (stepsG_cons ?_ stepsG_zero)))))))))))))))))))))) ?fin
    · refine stepG_plain rfl ?_
      intro a0 w9 K9 hF hB hK hC
      have b8 := hF.base (k := 8) (v := .int .i64 0) (by kernel_rfl) rfl
      clear hF hB hK
      go_simp
      exact hC _ _ (bel_refl _) fun _ _ => rfl
    · refine stepG_plain rfl ?_
      intro a0 w9 K9 hF hB hK hC
      obtain ⟨v52, e52, z52⟩ := dep hK 0 (g := .data) (j := 0) (k := 52) rfl rfl rfl
      have z52 : v52 = .int .i64 0 := z52
      subst z52
      have HB9 := Lib.hid hB
      clear hF hB hK
      go_simp
      exact hC _ _ (bel_refl _) fun _ _ => rfl
    · refine stepG_plain rfl ?_
      intro a0 w9 K9 hF hB hK hC
      obtain ⟨v53, e53, z53⟩ := dep hK 0 (g := .data) (j := 1) (k := 53) rfl rfl rfl
      have z53 : v53 = .bool false := z53
      subst z53
      clear hF hB hK
      go_simp
      exact hC _ _ (bel_refl _) fun _ _ => rfl
    · intro a0 w9 K9 hF hB hK hC
      obtain ⟨vg, eg, zg⟩ := dep hK 0 (g := .guard) (j := 2) (k := 54) rfl rfl rfl
      have zg : vg = .bool false := zg
      subst zg
      refine guard_in (j := 2) (k := 54) (want := false) rfl rfl eg rfl ?_
      have b7 := hF.base (k := 7) (v := .pointer (some ⟨w2.heap.size, 0, none⟩)) (by kernel_rfl) rfl
      have x90 : w9.cell? ⟨w2.heap.size, 0, none⟩ = some (.bool t.s) := (VX.out.below hB VX.out.lt).cell 0
      have x91 : w9.cell? ⟨w2.heap.size, 1, none⟩ = some (.slice Ax (limbs t.n).length cx) := (VX.out.below hB VX.out.lt).cell 1
      have x92 : w9.cell? ⟨w2.heap.size, 2, none⟩ = some (.slice Ay (limbs t.d).length cy) := (VX.out.below hB VX.out.lt).cell 2
      clear hF hB hK
      go_simp
      exact hC _ _ (bel_refl _) fun _ _ => rfl
    · intro a0 w9 K9 hF hB hK hC
      obtain ⟨vg, eg, zg⟩ := dep hK 0 (g := .guard) (j := 2) (k := 54) rfl rfl rfl
      have zg : vg = .bool false := zg
      subst zg
      refine guard_in (j := 2) (k := 54) (want := false) rfl rfl eg rfl ?_
      have b9 := hF.base (k := 9) (v := .pointer (some ⟨w4.heap.size, 0, none⟩)) (by kernel_rfl) rfl
      clear hF hB hK
      go_simp
      exact hC _ _ (bel_refl _) fun _ _ => rfl
    · intro a0 w9 K9 hF hB hK hC
      obtain ⟨vg, eg, zg⟩ := dep hK 1 (g := .guard) (j := 2) (k := 54) rfl rfl rfl
      have zg : vg = .bool false := zg
      subst zg
      refine guard_in (j := 2) (k := 54) (want := false) rfl rfl eg rfl ?_
      obtain ⟨v56, e56, z56⟩ := dep hK 0 (g := .data) (j := 4) (k := 56) rfl rfl rfl
      have z56 : v56 = .pointer (some ⟨w4.heap.size, 0, none⟩) := z56
      subst z56
      have x9 : w9.cell? ⟨w4.heap.size, 0, none⟩ = some (.bool false) := (VF.out.below hB VF.out.lt).cell 0
      clear hF hB hK
      go_simp
      exact hC _ _ (bel_refl _) fun _ _ => rfl
    · intro a0 w9 K9 hF hB hK hC
      obtain ⟨vg, eg, zg⟩ := dep hK 0 (g := .guard) (j := 2) (k := 54) rfl rfl rfl
      have zg : vg = .bool false := zg
      subst zg
      refine guard_in (j := 2) (k := 54) (want := false) rfl rfl eg rfl ?_
      have b9 := hF.base (k := 9) (v := .pointer (some ⟨w4.heap.size, 0, none⟩)) (by kernel_rfl) rfl
      clear hF hB hK
      go_simp
      exact hC _ _ (bel_refl _) fun _ _ => rfl
    · intro a0 w9 K9 hF hB hK hC
      obtain ⟨vg, eg, zg⟩ := dep hK 1 (g := .guard) (j := 2) (k := 54) rfl rfl rfl
      have zg : vg = .bool false := zg
      subst zg
      refine guard_in (j := 2) (k := 54) (want := false) rfl rfl eg rfl ?_
      obtain ⟨v58, e58, z58⟩ := dep hK 0 (g := .data) (j := 6) (k := 58) rfl rfl rfl
      have z58 : v58 = .pointer (some ⟨w4.heap.size, 1, none⟩) := z58
      subst z58
      have x9 : w9.cell? ⟨w4.heap.size, 1, none⟩ = some (.string (dec n)) := (VF.out.below hB VF.out.lt).cell 1
      clear hF hB hK
      go_simp
      exact hC _ _ (bel_refl _) fun _ _ => rfl
    · intro a0 w9 K9 hF hB hK hC
      obtain ⟨vg, eg, zg⟩ := dep hK 0 (g := .guard) (j := 2) (k := 54) rfl rfl rfl
      have zg : vg = .bool false := zg
      subst zg
      refine guard_in (j := 2) (k := 54) (want := false) rfl rfl eg rfl ?_
      have b9 := hF.base (k := 9) (v := .pointer (some ⟨w4.heap.size, 0, none⟩)) (by kernel_rfl) rfl
      clear hF hB hK
      go_simp
      exact hC _ _ (bel_refl _) fun _ _ => rfl
    · intro a0 w9 K9 hF hB hK hC
      obtain ⟨vg, eg, zg⟩ := dep hK 1 (g := .guard) (j := 2) (k := 54) rfl rfl rfl
      have zg : vg = .bool false := zg
      subst zg
      refine guard_in (j := 2) (k := 54) (want := false) rfl rfl eg rfl ?_
      obtain ⟨v60, e60, z60⟩ := dep hK 0 (g := .data) (j := 8) (k := 60) rfl rfl rfl
      have z60 : v60 = .pointer (some ⟨w4.heap.size, 2, none⟩) := z60
      subst z60
      have x9 : w9.cell? ⟨w4.heap.size, 2, none⟩ = some (.string (dec d0)) := (VF.out.below hB VF.out.lt).cell 2
      clear hF hB hK
      go_simp
      exact hC _ _ (bel_refl _) fun _ _ => rfl
    · intro a0 w9 K9 hF hB hK hC
      obtain ⟨vg, eg, zg⟩ := dep hK 3 (g := .guard) (j := 2) (k := 54) rfl rfl rfl
      have zg : vg = .bool false := zg
      subst zg
      refine guard_in (j := 2) (k := 54) (want := false) rfl rfl eg rfl ?_
      obtain ⟨v59, e59, z59⟩ := dep hK 0 (g := .data) (j := 7) (k := 59) rfl rfl rfl
      have z59 : v59 = .string (dec n) := z59
      subst z59
      obtain ⟨v61, e61, z61⟩ := dep hK 1 (g := .data) (j := 9) (k := 61) rfl rfl rfl
      have z61 : v61 = .string (dec d0) := z61
      subst z61
      have HB9 := Lib.hid hB
      clear hF hB hK
      go_simp
      refine (refDiv_any n d0 _ (by have := decL_top HQ.out.1; omega) (by have := decL_top HQ.out.2.1; omega) HQ.out.2.2.den).mono ?_
      rintro e w7 ⟨rfl, hbl⟩
      exact hC _ _ hbl fun _ _ => rfl
    · intro a0 w9 K9 hF hB hK hC
      obtain ⟨vg, eg, zg⟩ := dep hK 1 (g := .guard) (j := 2) (k := 54) rfl rfl rfl
      have zg : vg = .bool false := zg
      subst zg
      refine guard_in (j := 2) (k := 54) (want := false) rfl rfl eg rfl ?_
      obtain ⟨v62, e62, z62⟩ := dep hK 0 (g := .data) (j := 10) (k := 62) rfl rfl rfl
      have z62 : v62 = .agg #[.string (dec (n / d0)), .string (dec (n % d0))] := z62
      subst z62
      have HB9 := Lib.hid hB
      clear hF hB hK
      go_simp
      exact hC _ _ (bel_refl _) fun _ _ => rfl
    · intro a0 w9 K9 hF hB hK hC
      obtain ⟨vg, eg, zg⟩ := dep hK 2 (g := .guard) (j := 2) (k := 54) rfl rfl rfl
      have zg : vg = .bool false := zg
      subst zg
      refine guard_in (j := 2) (k := 54) (want := false) rfl rfl eg rfl ?_
      obtain ⟨v57, e57, z57⟩ := dep hK 0 (g := .data) (j := 5) (k := 57) rfl rfl rfl
      have z57 : v57 = .bool false := z57
      subst z57
      obtain ⟨v63, e63, z63⟩ := dep hK 1 (g := .data) (j := 11) (k := 63) rfl rfl rfl
      have z63 : v63 = .string (dec (n / d0)) := z63
      subst z63
      have HB9 := Lib.hid hB
      clear hF hB hK
      go_simp
      exact hC _ _ (bel_refl _) fun _ _ => rfl
    · intro a0 w9 K9 hF hB hK hC
      obtain ⟨vg, eg, zg⟩ := dep hK 2 (g := .guard) (j := 2) (k := 54) rfl rfl rfl
      have zg : vg = .bool false := zg
      subst zg
      refine guard_in (j := 2) (k := 54) (want := false) rfl rfl eg rfl ?_
      obtain ⟨v64, e64, z64⟩ := dep hK 0 (g := .data) (j := 12) (k := 64) rfl rfl rfl
      have z64 : v64 = .agg #[.bool false, .string (dec (n / d0)), .string ⟨#[49]⟩, .bool false] := z64
      subst z64
      have HB9 := Lib.hid hB
      clear hF hB hK
      rw [← dec_one] at e64
      go_simp
      refine (refRed_fit false (n / d0) 1 _ (lt_top (Nat.div_le_self n d0) HQ.out.1) (small_top (by decide)) HT.out).mono ?_
      rintro e w7 ⟨rfl, hbl⟩
      exact hC _ _ hbl fun _ _ => rfl
    · intro a0 w9 K9 hF hB hK hC
      obtain ⟨vg, eg, zg⟩ := dep hK 3 (g := .guard) (j := 2) (k := 54) rfl rfl rfl
      have zg : vg = .bool false := zg
      subst zg
      refine guard_in (j := 2) (k := 54) (want := false) rfl rfl eg rfl ?_
      obtain ⟨v55, e55, z55⟩ := dep hK 0 (g := .data) (j := 3) (k := 55) rfl rfl rfl
      have z55 : v55 = .agg #[.bool t.s, .slice Ax (limbs t.n).length cx, .slice Ay (limbs t.d).length cy] := z55
      subst z55
      obtain ⟨v65, e65, z65⟩ := dep hK 1 (g := .data) (j := 13) (k := 65) rfl rfl rfl
      have z65 : v65 = .agg #[.bool t.s, .string (dec t.n), .string (dec t.d), .bool false] := z65
      subst z65
      have HB9 := Lib.hid hB
      clear hF hB hK
      go_simp
      refine (refIs_true t false Ax Ay cx cy _ (Rx.out.below HB9.out) (Ry.out.below HB9.out) HTF.out.1 HTF.out.2.1 HTF.out.2.2).mono ?_
      rintro e w7 ⟨rfl, hbl⟩
      exact hC _ _ hbl fun _ _ => rfl
    · intro a0 w9 K9 hF hB hK hC
      obtain ⟨vg, eg, zg⟩ := dep hK 1 (g := .guard) (j := 2) (k := 54) rfl rfl rfl
      have zg : vg = .bool false := zg
      subst zg
      refine guard_in (j := 2) (k := 54) (want := false) rfl rfl eg rfl ?_
      obtain ⟨v66, e66, z66⟩ := dep hK 0 (g := .data) (j := 14) (k := 66) rfl rfl rfl
      have z66 : v66 = .bool true := z66
      subst z66
      have HB9 := Lib.hid hB
      clear hF hB hK
      go_simp
      exact hC _ _ (bel_refl _) fun _ _ => rfl
    · refine stepG_plain rfl ?_
      intro a0 w9 K9 hF hB hK hC
      obtain ⟨v54, e54, z54⟩ := dep hK 0 (g := .data) (j := 2) (k := 54) rfl rfl rfl
      have z54 : v54 = .bool false := z54
      subst z54
      obtain ⟨v67, e67, z67⟩ := dep hK 1 (g := .data) (j := 15) (k := 67) rfl rfl rfl
      have z67 : v67 = .bool false := z67
      subst z67
      have HB9 := Lib.hid hB
      clear hF hB hK
      go_simp
      exact hC _ _ (bel_refl _) fun _ _ => rfl
    · refine stepG_plain rfl ?_
      intro a0 w9 K9 hF hB hK hC
      obtain ⟨v68, e68, z68⟩ := dep hK 0 (g := .data) (j := 16) (k := 68) rfl rfl rfl
      have z68 : v68 = .bool false := z68
      subst z68
      clear hF hB hK
      go_simp
      exact hC _ _ (bel_refl _) fun _ _ => rfl
    · intro a0 w9 K9 hF hB hK hC
      obtain ⟨vg, eg, zg⟩ := dep hK 1 (g := .guard) (j := 17) (k := 69) rfl rfl rfl
      have zg : vg = .bool false := zg
      subst zg
      refine guard_in (j := 17) (k := 69) (want := false) rfl rfl eg rfl ?_
      have HB9 := Lib.hid hB
      clear hF hB hK
      go_simp
      refine (aliveQ _).mono ?_
      rintro e w7 ⟨rfl, hbl⟩
      exact hC _ _ hbl fun _ _ => rfl
    · intro a0 w9 K9 hF hB hK hC
      obtain ⟨vg, eg, zg⟩ := dep hK 1 (g := .guard) (j := 17) (k := 69) rfl rfl rfl
      have zg : vg = .bool false := zg
      subst zg
      refine guard_in (j := 17) (k := 69) (want := false) rfl rfl eg rfl ?_
      obtain ⟨v70, e70, z70⟩ := dep hK 0 (g := .data) (j := 18) (k := 70) rfl rfl rfl
      have z70 : v70 = .bool true := z70
      subst z70
      have HB9 := Lib.hid hB
      clear hF hB hK
      go_simp
      exact hC _ _ (bel_refl _) fun _ _ => rfl
    · refine stepG_plain rfl ?_
      intro a0 w9 K9 hF hB hK hC
      obtain ⟨v69, e69, z69⟩ := dep hK 0 (g := .data) (j := 17) (k := 69) rfl rfl rfl
      have z69 : v69 = .bool false := z69
      subst z69
      obtain ⟨v71, e71, z71⟩ := dep hK 1 (g := .data) (j := 19) (k := 71) rfl rfl rfl
      have z71 : v71 = .bool false := z71
      subst z71
      have HB9 := Lib.hid hB
      clear hF hB hK
      go_simp
      exact hC _ _ (bel_refl _) fun _ _ => rfl
    case fin =>
      intro a0 w9 hF hB hK
      have b2 := hF.base (k := 2) (v := .pointer (some ⟨w.heap.size, 0, none⟩)) (by kernel_rfl) rfl
      have b3 := hF.base (k := 3) (v := .pointer (some ⟨w.heap.size + 1, 0, none⟩)) (by kernel_rfl) rfl
      have b5 := hF.base (k := 5) (v := .int .i64 (1)) (by kernel_rfl) rfl
      have b6 := hF.base (k := 6) (v := .int .i64 0) (by kernel_rfl) rfl
      have b7 := hF.base (k := 7) (v := .pointer (some ⟨w2.heap.size, 0, none⟩)) (by kernel_rfl) rfl
      have b8 := hF.base (k := 8) (v := .int .i64 0) (by kernel_rfl) rfl
      have b9 := hF.base (k := 9) (v := .pointer (some ⟨w4.heap.size, 0, none⟩)) (by kernel_rfl) rfl
      have hsz := hF.size
      have hdf := hF.defers
      clear hF
      obtain ⟨v72, e72, z72⟩ := known hK 20 (k := 72) (by decide) rfl
      have z72 : v72 = .bool false := z72
      subst z72
      clear hK
      obtain ⟨⟨l0⟩, df⟩ := a0
      have hs0 : l0.length = 131 := hsz
      clear hsz
      replace hdf : df = _ := hdf
      subst hdf
      obtain ⟨u, rfl⟩ := lits_131 hs0
      clear hs0
      have q2 : u 2 = _ := Option.some.inj b2
      clear b2
      have q3 : u 3 = _ := Option.some.inj b3
      clear b3
      have q5 : u 5 = _ := Option.some.inj b5
      clear b5
      have q6 : u 6 = _ := Option.some.inj b6
      clear b6
      have q7 : u 7 = _ := Option.some.inj b7
      clear b7
      have q8 : u 8 = _ := Option.some.inj b8
      clear b8
      have q9 : u 9 = _ := Option.some.inj b9
      clear b9
      have q72 : u 72 = _ := Option.some.inj e72
      clear e72
      rw [q2, q3, q5, q6, q7, q8, q9, q72]
      clear q2 q3 q5 q6 q7 q8 q9 q72
      have hbl := hB; clear hB
      replace R1 := Lib.hid (R1.out.below hbl)
      replace R2 := Lib.hid (R2.out.below hbl)
      replace R3 := Lib.hid (R3.out.below hbl)
      replace R4 := Lib.hid (R4.out.below hbl)
      replace Rx := Lib.hid (Rx.out.below hbl)
      replace HNx := Lib.hid (HNx.out.below hbl)
      replace Ry := Lib.hid (Ry.out.below hbl)
      replace HNy := Lib.hid (HNy.out.below hbl)
      replace CX := Lib.hid (CX.out.below hbl CX.out.lt)
      replace CY := Lib.hid (CY.out.below hbl CY.out.lt)
      replace VX := Lib.hid (VX.out.below hbl VX.out.lt)
      replace VF := Lib.hid (VF.out.below hbl VF.out.lt)
      replace HW := Lib.hid (bel_trans HW.out hbl); clear hbl
      clear CX0 CX1 CX2 CY0 CY1 CY2 VX0 VX1 VX2 VF0 VF1 VF2 VF3
      have CX0 : w9.cell? ⟨w.heap.size, 0, none⟩ = some (.bool false) := CX.out.cell 0
      have CX1 : w9.cell? ⟨w.heap.size, 1, none⟩ = some (.slice A (limbs n).length c) := CX.out.cell 1
      have CX2 : w9.cell? ⟨w.heap.size, 2, none⟩ = some (.slice B (limbs d0).length d) := CX.out.cell 2
      have CY0 : w9.cell? ⟨w.heap.size + 1, 0, none⟩ = some (.bool true) := CY.out.cell 0
      have CY1 : w9.cell? ⟨w.heap.size + 1, 1, none⟩ = some (.slice A' (limbs m).length c') := CY.out.cell 1
      have CY2 : w9.cell? ⟨w.heap.size + 1, 2, none⟩ = some (.slice B' (limbs f0).length d') := CY.out.cell 2
      have VX0 : w9.cell? ⟨w2.heap.size, 0, none⟩ = some (.bool t.s) := VX.out.cell 0
      have VX1 : w9.cell? ⟨w2.heap.size, 1, none⟩ = some (.slice Ax (limbs t.n).length cx) := VX.out.cell 1
      have VX2 : w9.cell? ⟨w2.heap.size, 2, none⟩ = some (.slice Ay (limbs t.d).length cy) := VX.out.cell 2
      have VF0 : w9.cell? ⟨w4.heap.size, 0, none⟩ = some (.bool false) := VF.out.cell 0
      have VF1 : w9.cell? ⟨w4.heap.size, 1, none⟩ = some (.string (dec n)) := VF.out.cell 1
      have VF2 : w9.cell? ⟨w4.heap.size, 2, none⟩ = some (.string (dec d0)) := VF.out.cell 2
      have VF3 : w9.cell? ⟨w4.heap.size, 3, none⟩ = some (.bool false) := VF.out.cell 3
      refine wpList_nil ?_
      clear hfd
      go_wp2_with fail
      refine (refRatRight_is true A' B' c' d' (limbs m) (limbs f0) _ R3.out R4.out M.out.2.2.1 M.out.2.2.2 L18.out.2.2.1 L18.out.2.2.2 HRB.out).mono ?_
      rintro e w5 ⟨rfl, hbl⟩
      replace R1 := Lib.hid (R1.out.below hbl)
      replace R2 := Lib.hid (R2.out.below hbl)
      replace R3 := Lib.hid (R3.out.below hbl)
      replace R4 := Lib.hid (R4.out.below hbl)
      replace Rx := Lib.hid (Rx.out.below hbl)
      replace HNx := Lib.hid (HNx.out.below hbl)
      replace Ry := Lib.hid (Ry.out.below hbl)
      replace HNy := Lib.hid (HNy.out.below hbl)
      replace CX := Lib.hid (CX.out.below hbl CX.out.lt)
      replace CY := Lib.hid (CY.out.below hbl CY.out.lt)
      replace VX := Lib.hid (VX.out.below hbl VX.out.lt)
      replace VF := Lib.hid (VF.out.below hbl VF.out.lt)
      replace HW := Lib.hid (bel_trans HW.out hbl); clear hbl
      clear CX0 CX1 CX2 CY0 CY1 CY2 VX0 VX1 VX2 VF0 VF1 VF2 VF3
      have CX0 : w5.cell? ⟨w.heap.size, 0, none⟩ = some (.bool false) := CX.out.cell 0
      have CX1 : w5.cell? ⟨w.heap.size, 1, none⟩ = some (.slice A (limbs n).length c) := CX.out.cell 1
      have CX2 : w5.cell? ⟨w.heap.size, 2, none⟩ = some (.slice B (limbs d0).length d) := CX.out.cell 2
      have CY0 : w5.cell? ⟨w.heap.size + 1, 0, none⟩ = some (.bool true) := CY.out.cell 0
      have CY1 : w5.cell? ⟨w.heap.size + 1, 1, none⟩ = some (.slice A' (limbs m).length c') := CY.out.cell 1
      have CY2 : w5.cell? ⟨w.heap.size + 1, 2, none⟩ = some (.slice B' (limbs f0).length d') := CY.out.cell 2
      have VX0 : w5.cell? ⟨w2.heap.size, 0, none⟩ = some (.bool t.s) := VX.out.cell 0
      have VX1 : w5.cell? ⟨w2.heap.size, 1, none⟩ = some (.slice Ax (limbs t.n).length cx) := VX.out.cell 1
      have VX2 : w5.cell? ⟨w2.heap.size, 2, none⟩ = some (.slice Ay (limbs t.d).length cy) := VX.out.cell 2
      have VF0 : w5.cell? ⟨w4.heap.size, 0, none⟩ = some (.bool false) := VF.out.cell 0
      have VF1 : w5.cell? ⟨w4.heap.size, 1, none⟩ = some (.string (dec n)) := VF.out.cell 1
      have VF2 : w5.cell? ⟨w4.heap.size, 2, none⟩ = some (.string (dec d0)) := VF.out.cell 2
      have VF3 : w5.cell? ⟨w4.heap.size, 3, none⟩ = some (.bool false) := VF.out.cell 3
      go_wp2_with fail
      refine (refOf_any true A' B' c' d' m f0 _ R3.out R4.out HP.out.1 HP.out.2.1).mono ?_
      rintro e w6 ⟨rfl, hbl⟩
      replace R1 := Lib.hid (R1.out.below hbl)
      replace R2 := Lib.hid (R2.out.below hbl)
      replace R3 := Lib.hid (R3.out.below hbl)
      replace R4 := Lib.hid (R4.out.below hbl)
      replace Rx := Lib.hid (Rx.out.below hbl)
      replace HNx := Lib.hid (HNx.out.below hbl)
      replace Ry := Lib.hid (Ry.out.below hbl)
      replace HNy := Lib.hid (HNy.out.below hbl)
      replace CX := Lib.hid (CX.out.below hbl CX.out.lt)
      replace CY := Lib.hid (CY.out.below hbl CY.out.lt)
      replace VX := Lib.hid (VX.out.below hbl VX.out.lt)
      replace VF := Lib.hid (VF.out.below hbl VF.out.lt)
      replace HW := Lib.hid (bel_trans HW.out hbl); clear hbl
      clear CX0 CX1 CX2 CY0 CY1 CY2 VX0 VX1 VX2 VF0 VF1 VF2 VF3
      have CX0 : w6.cell? ⟨w.heap.size, 0, none⟩ = some (.bool false) := CX.out.cell 0
      have CX1 : w6.cell? ⟨w.heap.size, 1, none⟩ = some (.slice A (limbs n).length c) := CX.out.cell 1
      have CX2 : w6.cell? ⟨w.heap.size, 2, none⟩ = some (.slice B (limbs d0).length d) := CX.out.cell 2
      have CY0 : w6.cell? ⟨w.heap.size + 1, 0, none⟩ = some (.bool true) := CY.out.cell 0
      have CY1 : w6.cell? ⟨w.heap.size + 1, 1, none⟩ = some (.slice A' (limbs m).length c') := CY.out.cell 1
      have CY2 : w6.cell? ⟨w.heap.size + 1, 2, none⟩ = some (.slice B' (limbs f0).length d') := CY.out.cell 2
      have VX0 : w6.cell? ⟨w2.heap.size, 0, none⟩ = some (.bool t.s) := VX.out.cell 0
      have VX1 : w6.cell? ⟨w2.heap.size, 1, none⟩ = some (.slice Ax (limbs t.n).length cx) := VX.out.cell 1
      have VX2 : w6.cell? ⟨w2.heap.size, 2, none⟩ = some (.slice Ay (limbs t.d).length cy) := VX.out.cell 2
      have VF0 : w6.cell? ⟨w4.heap.size, 0, none⟩ = some (.bool false) := VF.out.cell 0
      have VF1 : w6.cell? ⟨w4.heap.size, 1, none⟩ = some (.string (dec n)) := VF.out.cell 1
      have VF2 : w6.cell? ⟨w4.heap.size, 2, none⟩ = some (.string (dec d0)) := VF.out.cell 2
      have VF3 : w6.cell? ⟨w4.heap.size, 3, none⟩ = some (.bool false) := VF.out.cell 3
      go_upto_region 12 with fail
      obtain ⟨wo, hwo⟩ : ∃ wo, wo = w6.alloc (.cells #[.bool true, .string (dec m), .string (dec f0), .bool false] 49) := ⟨_, rfl⟩
      rw [← hwo]
      have hbl : Below w6.heap.size w6 wo := by rw [hwo]; exact bel_alloc (bel_refl _) _
      have VG : Blk wo (w6.heap.size) 49 #[.bool true, .string (dec m), .string (dec f0), .bool false] := by
        have hz := Blk.new (w6) 49 #[.bool true, .string (dec m), .string (dec f0), .bool false]
        rw [hwo]
        exact hz
      clear hwo
      replace R1 := Lib.hid (R1.out.below hbl)
      replace R2 := Lib.hid (R2.out.below hbl)
      replace R3 := Lib.hid (R3.out.below hbl)
      replace R4 := Lib.hid (R4.out.below hbl)
      replace Rx := Lib.hid (Rx.out.below hbl)
      replace HNx := Lib.hid (HNx.out.below hbl)
      replace Ry := Lib.hid (Ry.out.below hbl)
      replace HNy := Lib.hid (HNy.out.below hbl)
      replace CX := Lib.hid (CX.out.below hbl CX.out.lt)
      replace CY := Lib.hid (CY.out.below hbl CY.out.lt)
      replace VX := Lib.hid (VX.out.below hbl VX.out.lt)
      replace VF := Lib.hid (VF.out.below hbl VF.out.lt)
      replace HW := Lib.hid (bel_trans HW.out hbl); clear hbl
      replace VG := Lib.hid VG
      clear CX0 CX1 CX2 CY0 CY1 CY2 VX0 VX1 VX2 VF0 VF1 VF2 VF3
      have CX0 : wo.cell? ⟨w.heap.size, 0, none⟩ = some (.bool false) := CX.out.cell 0
      have CX1 : wo.cell? ⟨w.heap.size, 1, none⟩ = some (.slice A (limbs n).length c) := CX.out.cell 1
      have CX2 : wo.cell? ⟨w.heap.size, 2, none⟩ = some (.slice B (limbs d0).length d) := CX.out.cell 2
      have CY0 : wo.cell? ⟨w.heap.size + 1, 0, none⟩ = some (.bool true) := CY.out.cell 0
      have CY1 : wo.cell? ⟨w.heap.size + 1, 1, none⟩ = some (.slice A' (limbs m).length c') := CY.out.cell 1
      have CY2 : wo.cell? ⟨w.heap.size + 1, 2, none⟩ = some (.slice B' (limbs f0).length d') := CY.out.cell 2
      have VX0 : wo.cell? ⟨w2.heap.size, 0, none⟩ = some (.bool t.s) := VX.out.cell 0
      have VX1 : wo.cell? ⟨w2.heap.size, 1, none⟩ = some (.slice Ax (limbs t.n).length cx) := VX.out.cell 1
      have VX2 : wo.cell? ⟨w2.heap.size, 2, none⟩ = some (.slice Ay (limbs t.d).length cy) := VX.out.cell 2
      have VF0 : wo.cell? ⟨w4.heap.size, 0, none⟩ = some (.bool false) := VF.out.cell 0
      have VF1 : wo.cell? ⟨w4.heap.size, 1, none⟩ = some (.string (dec n)) := VF.out.cell 1
      have VF2 : wo.cell? ⟨w4.heap.size, 2, none⟩ = some (.string (dec d0)) := VF.out.cell 2
      have VF3 : wo.cell? ⟨w4.heap.size, 3, none⟩ = some (.bool false) := VF.out.cell 3
      have VG0 : wo.cell? ⟨w6.heap.size, 0, none⟩ = some (.bool true) := VG.out.cell 0
      have VG1 : wo.cell? ⟨w6.heap.size, 1, none⟩ = some (.string (dec m)) := VG.out.cell 1
      have VG2 : wo.cell? ⟨w6.heap.size, 2, none⟩ = some (.string (dec f0)) := VG.out.cell 2
      have VG3 : wo.cell? ⟨w6.heap.size, 3, none⟩ = some (.bool false) := VG.out.cell 3
      refine wp_region_typed 12 (TOf [VIs (.pointer (some ⟨w4.heap.size, 1, none⟩)),
          VIs (.string (dec n)),
          VIs (.pointer (some ⟨w6.heap.size, 2, none⟩)),
          VIs (.string (dec f0)),
          VIs (.string (dec x)),
          VIs (.pointer (some ⟨w6.heap.size, 1, none⟩)),
          VIs (.string (dec m)),
          VIs (.pointer (some ⟨w4.heap.size, 2, none⟩)),
          VIs (.string (dec d0)),
          VIs (.string (dec y)),
          VIs (.string (dec x)),
          VIs (.string (dec y))]) (by kernel_rfl) (by kernel_rfl) (by kernel_rfl) (LiftAll.at_ (.cons (VIs.lift _) (.cons (VIs.lift _) (.cons (VIs.lift _) (.cons (VIs.lift _) (.cons (VIs.lift _) (.cons (VIs.lift _) (.cons (VIs.lift _) (.cons (VIs.lift _) (.cons (VIs.lift _) (.cons (VIs.lift _) (.cons (VIs.lift _) (.cons (VIs.lift _) .nil))))))))))))) (steps_all (steps_cons ?_ (steps_cons ?_ (steps_cons ?_ (steps_cons ?_ (steps_cons ?_ (steps_cons ?_ (steps_cons ?_ (steps_cons ?_ (steps_cons ?_ (steps_cons ?_ (steps_cons ?_ (steps_cons ?_ steps_zero))))))))))))) ?fin
      · intro a0 w9 K9 hF hB hK hC
        have b9 := hF.base (k := 9) (v := .pointer (some ⟨w4.heap.size, 0, none⟩)) (by kernel_rfl) rfl
        clear hF hB hK
        go_simp
        exact hC _ _ (bel_refl _) fun _ _ => rfl
      · intro a0 w9 K9 hF hB hK hC
        obtain ⟨v84, e84, z84⟩ := dep hK 0 (g := .data) (j := 0) (k := 84) rfl rfl rfl
        have z84 : v84 = .pointer (some ⟨w4.heap.size, 1, none⟩) := z84
        subst z84
        have x9 : w9.cell? ⟨w4.heap.size, 1, none⟩ = some (.string (dec n)) := (VF.out.below hB VF.out.lt).cell 1
        clear hF hB hK
        go_simp
        exact hC _ _ (bel_refl _) fun _ _ => rfl
      · intro a0 w9 K9 hF hB hK hC
        have b10 := hF.base (k := 10) (v := .pointer (some ⟨w6.heap.size, 0, none⟩)) (by kernel_rfl) rfl
        clear hF hB hK
        go_simp
        exact hC _ _ (bel_refl _) fun _ _ => rfl
      · intro a0 w9 K9 hF hB hK hC
        obtain ⟨v86, e86, z86⟩ := dep hK 0 (g := .data) (j := 2) (k := 86) rfl rfl rfl
        have z86 : v86 = .pointer (some ⟨w6.heap.size, 2, none⟩) := z86
        subst z86
        have x9 : w9.cell? ⟨w6.heap.size, 2, none⟩ = some (.string (dec f0)) := (VG.out.below hB VG.out.lt).cell 2
        clear hF hB hK
        go_simp
        exact hC _ _ (bel_refl _) fun _ _ => rfl
      · intro a0 w9 K9 hF hB hK hC
        obtain ⟨v85, e85, z85⟩ := dep hK 0 (g := .data) (j := 1) (k := 85) rfl rfl rfl
        have z85 : v85 = .string (dec n) := z85
        subst z85
        obtain ⟨v87, e87, z87⟩ := dep hK 1 (g := .data) (j := 3) (k := 87) rfl rfl rfl
        have z87 : v87 = .string (dec f0) := z87
        subst z87
        have HB9 := Lib.hid hB
        clear hF hB hK
        go_simp
        refine (refMul_any n f0 _ (by have := decL_top HQ.out.1; omega) (by have := decL_top HP.out.2.1; omega)).mono ?_
        rintro e w7 ⟨rfl, hbl⟩
        rw [HXY.out.1]
        exact hC _ _ hbl fun _ _ => rfl
      · intro a0 w9 K9 hF hB hK hC
        have b10 := hF.base (k := 10) (v := .pointer (some ⟨w6.heap.size, 0, none⟩)) (by kernel_rfl) rfl
        clear hF hB hK
        go_simp
        exact hC _ _ (bel_refl _) fun _ _ => rfl
      · intro a0 w9 K9 hF hB hK hC
        obtain ⟨v89, e89, z89⟩ := dep hK 0 (g := .data) (j := 5) (k := 89) rfl rfl rfl
        have z89 : v89 = .pointer (some ⟨w6.heap.size, 1, none⟩) := z89
        subst z89
        have x9 : w9.cell? ⟨w6.heap.size, 1, none⟩ = some (.string (dec m)) := (VG.out.below hB VG.out.lt).cell 1
        clear hF hB hK
        go_simp
        exact hC _ _ (bel_refl _) fun _ _ => rfl
      · intro a0 w9 K9 hF hB hK hC
        have b9 := hF.base (k := 9) (v := .pointer (some ⟨w4.heap.size, 0, none⟩)) (by kernel_rfl) rfl
        clear hF hB hK
        go_simp
        exact hC _ _ (bel_refl _) fun _ _ => rfl
      · intro a0 w9 K9 hF hB hK hC
        obtain ⟨v91, e91, z91⟩ := dep hK 0 (g := .data) (j := 7) (k := 91) rfl rfl rfl
        have z91 : v91 = .pointer (some ⟨w4.heap.size, 2, none⟩) := z91
        subst z91
        have x9 : w9.cell? ⟨w4.heap.size, 2, none⟩ = some (.string (dec d0)) := (VF.out.below hB VF.out.lt).cell 2
        clear hF hB hK
        go_simp
        exact hC _ _ (bel_refl _) fun _ _ => rfl
      · intro a0 w9 K9 hF hB hK hC
        obtain ⟨v90, e90, z90⟩ := dep hK 0 (g := .data) (j := 6) (k := 90) rfl rfl rfl
        have z90 : v90 = .string (dec m) := z90
        subst z90
        obtain ⟨v92, e92, z92⟩ := dep hK 1 (g := .data) (j := 8) (k := 92) rfl rfl rfl
        have z92 : v92 = .string (dec d0) := z92
        subst z92
        have HB9 := Lib.hid hB
        clear hF hB hK
        go_simp
        refine (refMul_any m d0 _ (by have := decL_top HP.out.1; omega) (by have := decL_top HQ.out.2.1; omega)).mono ?_
        rintro e w7 ⟨rfl, hbl⟩
        rw [HXY.out.2]
        exact hC _ _ hbl fun _ _ => rfl
      · intro a0 w9 K9 hF hB hK hC
        obtain ⟨v88, e88, z88⟩ := dep hK 0 (g := .data) (j := 4) (k := 88) rfl rfl rfl
        have z88 : v88 = .string (dec x) := z88
        subst z88
        clear hF hB hK
        go_simp
        exact hC _ _ (bel_refl _) fun _ _ => rfl
      · intro a0 w9 K9 hF hB hK hC
        obtain ⟨v93, e93, z93⟩ := dep hK 0 (g := .data) (j := 9) (k := 93) rfl rfl rfl
        have z93 : v93 = .string (dec y) := z93
        subst z93
        clear hF hB hK
        go_simp
        exact hC _ _ (bel_refl _) fun _ _ => rfl
      case fin =>
        intro a0 w9 hF hB hK
        have b5 := hF.base (k := 5) (v := .int .i64 (1)) (by kernel_rfl) rfl
        have b6 := hF.base (k := 6) (v := .int .i64 0) (by kernel_rfl) rfl
        have b9 := hF.base (k := 9) (v := .pointer (some ⟨w4.heap.size, 0, none⟩)) (by kernel_rfl) rfl
        have b10 := hF.base (k := 10) (v := .pointer (some ⟨w6.heap.size, 0, none⟩)) (by kernel_rfl) rfl
        have hsz := hF.size
        have hdf := hF.defers
        clear hF
        obtain ⟨v11, e11, z11⟩ := known hK 10 (k := 11) (by decide) rfl
        have z11 : v11 = .string (dec x) := z11
        subst z11
        obtain ⟨v12, e12, z12⟩ := known hK 11 (k := 12) (by decide) rfl
        have z12 : v12 = .string (dec y) := z12
        subst z12
        clear hK
        obtain ⟨⟨l0⟩, df⟩ := a0
        have hs0 : l0.length = 131 := hsz
        clear hsz
        replace hdf : df = _ := hdf
        subst hdf
        obtain ⟨u, rfl⟩ := lits_131 hs0
        clear hs0
        have q5 : u 5 = _ := Option.some.inj b5
        clear b5
        have q6 : u 6 = _ := Option.some.inj b6
        clear b6
        have q9 : u 9 = _ := Option.some.inj b9
        clear b9
        have q10 : u 10 = _ := Option.some.inj b10
        clear b10
        have q11 : u 11 = _ := Option.some.inj e11
        clear e11
        have q12 : u 12 = _ := Option.some.inj e12
        clear e12
        rw [q5, q6, q9, q10, q11, q12]
        clear q5 q6 q9 q10 q11 q12
        have hbl := hB; clear hB
        replace R1 := Lib.hid (R1.out.below hbl)
        replace R2 := Lib.hid (R2.out.below hbl)
        replace R3 := Lib.hid (R3.out.below hbl)
        replace R4 := Lib.hid (R4.out.below hbl)
        replace Rx := Lib.hid (Rx.out.below hbl)
        replace HNx := Lib.hid (HNx.out.below hbl)
        replace Ry := Lib.hid (Ry.out.below hbl)
        replace HNy := Lib.hid (HNy.out.below hbl)
        replace CX := Lib.hid (CX.out.below hbl CX.out.lt)
        replace CY := Lib.hid (CY.out.below hbl CY.out.lt)
        replace VX := Lib.hid (VX.out.below hbl VX.out.lt)
        replace VF := Lib.hid (VF.out.below hbl VF.out.lt)
        replace VG := Lib.hid (VG.out.below hbl VG.out.lt)
        replace HW := Lib.hid (bel_trans HW.out hbl); clear hbl
        clear CX0 CX1 CX2 CY0 CY1 CY2 VX0 VX1 VX2 VF0 VF1 VF2 VF3 VG0 VG1 VG2 VG3
        have CX0 : w9.cell? ⟨w.heap.size, 0, none⟩ = some (.bool false) := CX.out.cell 0
        have CX1 : w9.cell? ⟨w.heap.size, 1, none⟩ = some (.slice A (limbs n).length c) := CX.out.cell 1
        have CX2 : w9.cell? ⟨w.heap.size, 2, none⟩ = some (.slice B (limbs d0).length d) := CX.out.cell 2
        have CY0 : w9.cell? ⟨w.heap.size + 1, 0, none⟩ = some (.bool true) := CY.out.cell 0
        have CY1 : w9.cell? ⟨w.heap.size + 1, 1, none⟩ = some (.slice A' (limbs m).length c') := CY.out.cell 1
        have CY2 : w9.cell? ⟨w.heap.size + 1, 2, none⟩ = some (.slice B' (limbs f0).length d') := CY.out.cell 2
        have VX0 : w9.cell? ⟨w2.heap.size, 0, none⟩ = some (.bool t.s) := VX.out.cell 0
        have VX1 : w9.cell? ⟨w2.heap.size, 1, none⟩ = some (.slice Ax (limbs t.n).length cx) := VX.out.cell 1
        have VX2 : w9.cell? ⟨w2.heap.size, 2, none⟩ = some (.slice Ay (limbs t.d).length cy) := VX.out.cell 2
        have VF0 : w9.cell? ⟨w4.heap.size, 0, none⟩ = some (.bool false) := VF.out.cell 0
        have VF1 : w9.cell? ⟨w4.heap.size, 1, none⟩ = some (.string (dec n)) := VF.out.cell 1
        have VF2 : w9.cell? ⟨w4.heap.size, 2, none⟩ = some (.string (dec d0)) := VF.out.cell 2
        have VF3 : w9.cell? ⟨w4.heap.size, 3, none⟩ = some (.bool false) := VF.out.cell 3
        have VG0 : w9.cell? ⟨w6.heap.size, 0, none⟩ = some (.bool true) := VG.out.cell 0
        have VG1 : w9.cell? ⟨w6.heap.size, 1, none⟩ = some (.string (dec m)) := VG.out.cell 1
        have VG2 : w9.cell? ⟨w6.heap.size, 2, none⟩ = some (.string (dec f0)) := VG.out.cell 2
        have VG3 : w9.cell? ⟨w6.heap.size, 3, none⟩ = some (.bool false) := VG.out.cell 3
        refine wpList_nil ?_
        go_wp2_with fail
        refine (refOver_any x _).mono ?_
        rintro e w7 ⟨rfl, hbl⟩
        replace R1 := Lib.hid (R1.out.below hbl)
        replace R2 := Lib.hid (R2.out.below hbl)
        replace R3 := Lib.hid (R3.out.below hbl)
        replace R4 := Lib.hid (R4.out.below hbl)
        replace Rx := Lib.hid (Rx.out.below hbl)
        replace HNx := Lib.hid (HNx.out.below hbl)
        replace Ry := Lib.hid (Ry.out.below hbl)
        replace HNy := Lib.hid (HNy.out.below hbl)
        replace CX := Lib.hid (CX.out.below hbl CX.out.lt)
        replace CY := Lib.hid (CY.out.below hbl CY.out.lt)
        replace VX := Lib.hid (VX.out.below hbl VX.out.lt)
        replace VF := Lib.hid (VF.out.below hbl VF.out.lt)
        replace VG := Lib.hid (VG.out.below hbl VG.out.lt)
        replace HW := Lib.hid (bel_trans HW.out hbl); clear hbl
        clear CX0 CX1 CX2 CY0 CY1 CY2 VX0 VX1 VX2 VF0 VF1 VF2 VF3 VG0 VG1 VG2 VG3
        have CX0 : w7.cell? ⟨w.heap.size, 0, none⟩ = some (.bool false) := CX.out.cell 0
        have CX1 : w7.cell? ⟨w.heap.size, 1, none⟩ = some (.slice A (limbs n).length c) := CX.out.cell 1
        have CX2 : w7.cell? ⟨w.heap.size, 2, none⟩ = some (.slice B (limbs d0).length d) := CX.out.cell 2
        have CY0 : w7.cell? ⟨w.heap.size + 1, 0, none⟩ = some (.bool true) := CY.out.cell 0
        have CY1 : w7.cell? ⟨w.heap.size + 1, 1, none⟩ = some (.slice A' (limbs m).length c') := CY.out.cell 1
        have CY2 : w7.cell? ⟨w.heap.size + 1, 2, none⟩ = some (.slice B' (limbs f0).length d') := CY.out.cell 2
        have VX0 : w7.cell? ⟨w2.heap.size, 0, none⟩ = some (.bool t.s) := VX.out.cell 0
        have VX1 : w7.cell? ⟨w2.heap.size, 1, none⟩ = some (.slice Ax (limbs t.n).length cx) := VX.out.cell 1
        have VX2 : w7.cell? ⟨w2.heap.size, 2, none⟩ = some (.slice Ay (limbs t.d).length cy) := VX.out.cell 2
        have VF0 : w7.cell? ⟨w4.heap.size, 0, none⟩ = some (.bool false) := VF.out.cell 0
        have VF1 : w7.cell? ⟨w4.heap.size, 1, none⟩ = some (.string (dec n)) := VF.out.cell 1
        have VF2 : w7.cell? ⟨w4.heap.size, 2, none⟩ = some (.string (dec d0)) := VF.out.cell 2
        have VF3 : w7.cell? ⟨w4.heap.size, 3, none⟩ = some (.bool false) := VF.out.cell 3
        have VG0 : w7.cell? ⟨w6.heap.size, 0, none⟩ = some (.bool true) := VG.out.cell 0
        have VG1 : w7.cell? ⟨w6.heap.size, 1, none⟩ = some (.string (dec m)) := VG.out.cell 1
        have VG2 : w7.cell? ⟨w6.heap.size, 2, none⟩ = some (.string (dec f0)) := VG.out.cell 2
        have VG3 : w7.cell? ⟨w6.heap.size, 3, none⟩ = some (.bool false) := VG.out.cell 3
        rw [HO.out]
        go_wp2_with fail
        refine (refOver_any y _).mono ?_
        rintro e w8 ⟨rfl, hbl⟩
        replace R1 := Lib.hid (R1.out.below hbl)
        replace R2 := Lib.hid (R2.out.below hbl)
        replace R3 := Lib.hid (R3.out.below hbl)
        replace R4 := Lib.hid (R4.out.below hbl)
        replace Rx := Lib.hid (Rx.out.below hbl)
        replace HNx := Lib.hid (HNx.out.below hbl)
        replace Ry := Lib.hid (Ry.out.below hbl)
        replace HNy := Lib.hid (HNy.out.below hbl)
        replace CX := Lib.hid (CX.out.below hbl CX.out.lt)
        replace CY := Lib.hid (CY.out.below hbl CY.out.lt)
        replace VX := Lib.hid (VX.out.below hbl VX.out.lt)
        replace VF := Lib.hid (VF.out.below hbl VF.out.lt)
        replace VG := Lib.hid (VG.out.below hbl VG.out.lt)
        replace HW := Lib.hid (bel_trans HW.out hbl); clear hbl
        clear CX0 CX1 CX2 CY0 CY1 CY2 VX0 VX1 VX2 VF0 VF1 VF2 VF3 VG0 VG1 VG2 VG3
        have CX0 : w8.cell? ⟨w.heap.size, 0, none⟩ = some (.bool false) := CX.out.cell 0
        have CX1 : w8.cell? ⟨w.heap.size, 1, none⟩ = some (.slice A (limbs n).length c) := CX.out.cell 1
        have CX2 : w8.cell? ⟨w.heap.size, 2, none⟩ = some (.slice B (limbs d0).length d) := CX.out.cell 2
        have CY0 : w8.cell? ⟨w.heap.size + 1, 0, none⟩ = some (.bool true) := CY.out.cell 0
        have CY1 : w8.cell? ⟨w.heap.size + 1, 1, none⟩ = some (.slice A' (limbs m).length c') := CY.out.cell 1
        have CY2 : w8.cell? ⟨w.heap.size + 1, 2, none⟩ = some (.slice B' (limbs f0).length d') := CY.out.cell 2
        have VX0 : w8.cell? ⟨w2.heap.size, 0, none⟩ = some (.bool t.s) := VX.out.cell 0
        have VX1 : w8.cell? ⟨w2.heap.size, 1, none⟩ = some (.slice Ax (limbs t.n).length cx) := VX.out.cell 1
        have VX2 : w8.cell? ⟨w2.heap.size, 2, none⟩ = some (.slice Ay (limbs t.d).length cy) := VX.out.cell 2
        have VF0 : w8.cell? ⟨w4.heap.size, 0, none⟩ = some (.bool false) := VF.out.cell 0
        have VF1 : w8.cell? ⟨w4.heap.size, 1, none⟩ = some (.string (dec n)) := VF.out.cell 1
        have VF2 : w8.cell? ⟨w4.heap.size, 2, none⟩ = some (.string (dec d0)) := VF.out.cell 2
        have VF3 : w8.cell? ⟨w4.heap.size, 3, none⟩ = some (.bool false) := VF.out.cell 3
        have VG0 : w8.cell? ⟨w6.heap.size, 0, none⟩ = some (.bool true) := VG.out.cell 0
        have VG1 : w8.cell? ⟨w6.heap.size, 1, none⟩ = some (.string (dec m)) := VG.out.cell 1
        have VG2 : w8.cell? ⟨w6.heap.size, 2, none⟩ = some (.string (dec f0)) := VG.out.cell 2
        have VG3 : w8.cell? ⟨w6.heap.size, 3, none⟩ = some (.bool false) := VG.out.cell 3
        rw [HO2.out]
        go_wp2_with fail
        refine (refCmp_bb x y _).mono ?_
        rintro e w9 ⟨rfl, hbl⟩
        replace R1 := Lib.hid (R1.out.below hbl)
        replace R2 := Lib.hid (R2.out.below hbl)
        replace R3 := Lib.hid (R3.out.below hbl)
        replace R4 := Lib.hid (R4.out.below hbl)
        replace Rx := Lib.hid (Rx.out.below hbl)
        replace HNx := Lib.hid (HNx.out.below hbl)
        replace Ry := Lib.hid (Ry.out.below hbl)
        replace HNy := Lib.hid (HNy.out.below hbl)
        replace CX := Lib.hid (CX.out.below hbl CX.out.lt)
        replace CY := Lib.hid (CY.out.below hbl CY.out.lt)
        replace VX := Lib.hid (VX.out.below hbl VX.out.lt)
        replace VF := Lib.hid (VF.out.below hbl VF.out.lt)
        replace VG := Lib.hid (VG.out.below hbl VG.out.lt)
        replace HW := Lib.hid (bel_trans HW.out hbl); clear hbl
        clear CX0 CX1 CX2 CY0 CY1 CY2 VX0 VX1 VX2 VF0 VF1 VF2 VF3 VG0 VG1 VG2 VG3
        have CX0 : w9.cell? ⟨w.heap.size, 0, none⟩ = some (.bool false) := CX.out.cell 0
        have CX1 : w9.cell? ⟨w.heap.size, 1, none⟩ = some (.slice A (limbs n).length c) := CX.out.cell 1
        have CX2 : w9.cell? ⟨w.heap.size, 2, none⟩ = some (.slice B (limbs d0).length d) := CX.out.cell 2
        have CY0 : w9.cell? ⟨w.heap.size + 1, 0, none⟩ = some (.bool true) := CY.out.cell 0
        have CY1 : w9.cell? ⟨w.heap.size + 1, 1, none⟩ = some (.slice A' (limbs m).length c') := CY.out.cell 1
        have CY2 : w9.cell? ⟨w.heap.size + 1, 2, none⟩ = some (.slice B' (limbs f0).length d') := CY.out.cell 2
        have VX0 : w9.cell? ⟨w2.heap.size, 0, none⟩ = some (.bool t.s) := VX.out.cell 0
        have VX1 : w9.cell? ⟨w2.heap.size, 1, none⟩ = some (.slice Ax (limbs t.n).length cx) := VX.out.cell 1
        have VX2 : w9.cell? ⟨w2.heap.size, 2, none⟩ = some (.slice Ay (limbs t.d).length cy) := VX.out.cell 2
        have VF0 : w9.cell? ⟨w4.heap.size, 0, none⟩ = some (.bool false) := VF.out.cell 0
        have VF1 : w9.cell? ⟨w4.heap.size, 1, none⟩ = some (.string (dec n)) := VF.out.cell 1
        have VF2 : w9.cell? ⟨w4.heap.size, 2, none⟩ = some (.string (dec d0)) := VF.out.cell 2
        have VF3 : w9.cell? ⟨w4.heap.size, 3, none⟩ = some (.bool false) := VF.out.cell 3
        have VG0 : w9.cell? ⟨w6.heap.size, 0, none⟩ = some (.bool true) := VG.out.cell 0
        have VG1 : w9.cell? ⟨w6.heap.size, 1, none⟩ = some (.string (dec m)) := VG.out.cell 1
        have VG2 : w9.cell? ⟨w6.heap.size, 2, none⟩ = some (.string (dec f0)) := VG.out.cell 2
        have VG3 : w9.cell? ⟨w6.heap.size, 3, none⟩ = some (.bool false) := VG.out.cell 3
        go_wp2
        go_ret
        exact ⟨rfl, HW.out⟩

set_option maxRecDepth 100000 in
set_option maxHeartbeats 1000000 in
theorem orders_ff (s s' : Bool) (A B A' B' : Option Addr) (c d c' d' : Nat) (x0 y0 x0' y0' : List Nat) (n d0 : Nat) (m f0 : Nat) (w : World) (h1 : RdL w A x0) (h2 : RdL w B y0) (h3 : RdL w A' x0') (h4 : RdL w B' y0') (k1 : x0.length ≤ c) (k2 : y0.length ≤ d) (k3 : x0'.length ≤ c') (k4 : y0'.length ≤ d') (m1 : Lim x0) (m2 : Lim y0) (m3 : Lim x0') (m4 : Lim y0') (hs1 : s = false) (hs2 : s' = false) (hn : n < Top) (hd : d0 < Top) (hq : QR ⟨s, n, d0⟩) (hm : m < Top) (hf : f0 < Top) (hp : QR ⟨s', m, f0⟩) (ho : n * f0 < Top) (ho2 : m * d0 < Top) (e1 : few x0 = (limbs n)) (e2 : few y0 = (limbs d0)) (e3 : few x0' = (limbs m)) (e4 : few y0' = (limbs f0)) :
    Calls Try.prog 6 #[.agg #[.bool s, .slice A x0.length c, .slice B y0.length d], .agg #[.bool s', .slice A' x0'.length c', .slice B' y0'.length d']] w (RetT w) := by
  subst hs1 hs2
  have HR := Lib.hid ((rightB_q (s := false) hn hd).2 hq)
  have HQ := Lib.hid (And.intro hn (And.intro hd hq)); clear hn hd hq
  have HRB := Lib.hid ((rightB_q (s := false) hm hf).2 hp)
  have HP := Lib.hid (And.intro hm (And.intro hf hp)); clear hm hf hp
  obtain ⟨t, ht⟩ : ∃ t, redQ false (n / d0) 1 = t := ⟨_, rfl⟩
  have HT := Lib.hid ht; clear ht
  have HTF := Lib.hid (redQ_fit (lt_top (Nat.div_le_self n d0) HQ.out.1) (small_top (by decide)) (by decide) HT.out)
  obtain ⟨x, hx⟩ : ∃ x, n * f0 = x := ⟨_, rfl⟩
  obtain ⟨y, hy⟩ : ∃ y, m * d0 = y := ⟨_, rfl⟩
  rw [hx] at ho
  rw [hy] at ho2
  have HXY := Lib.hid (And.intro hx hy); clear hx hy
  have HO := Lib.hid (show decide (Top ≤ x) = false by exact decide_eq_false (by omega))
  have HO2 := Lib.hid (show decide (Top ≤ y) = false by exact decide_eq_false (by omega))
  have HF := Lib.hid ho; clear ho
  have HF2 := Lib.hid ho2; clear ho2
  have R1 := Lib.hid (show RdL w A (limbs n) by rw [← e1]; exact h1.take 18); clear h1
  have R2 := Lib.hid (show RdL w B (limbs d0) by rw [← e2]; exact h2.take 18); clear h2
  have R3 := Lib.hid (show RdL w A' (limbs m) by rw [← e3]; exact h3.take 18); clear h3
  have R4 := Lib.hid (show RdL w B' (limbs f0) by rw [← e4]; exact h4.take 18); clear h4
  have L18 := Lib.hid (show (limbs n).length ≤ 18 ∧ (limbs d0).length ≤ 18 ∧ (limbs m).length ≤ 18 ∧ (limbs f0).length ≤ 18 by rw [← e1, ← e2, ← e3, ← e4]; exact ⟨few_le _, few_le _, few_le _, few_le _⟩)
  have KC := Lib.hid (show (limbs n).length ≤ c ∧ (limbs d0).length ≤ d ∧ (limbs m).length ≤ c' ∧ (limbs f0).length ≤ d' by rw [← e1, ← e2, ← e3, ← e4]; exact ⟨Nat.le_trans (few_short _) k1, Nat.le_trans (few_short _) k2, Nat.le_trans (few_short _) k3, Nat.le_trans (few_short _) k4⟩)
  have M := Lib.hid (show Lim (limbs n) ∧ Lim (limbs d0) ∧ Lim (limbs m) ∧ Lim (limbs f0) by rw [← e1, ← e2, ← e3, ← e4]; exact ⟨few_lim m1, few_lim m2, few_lim m3, few_lim m4⟩); clear m1 m2 m3 m4
  have F := Lib.hid (And.intro (And.intro k1 (And.intro k2 (And.intro e1 e2))) (And.intro k3 (And.intro k4 (And.intro e3 e4)))); clear k1 k2 k3 k4 e1 e2 e3 e4
  obtain ⟨wa, hwa⟩ : ∃ wa, wa = (w.alloc (.cells #[.bool false, .slice A x0.length c, .slice B y0.length d] 25)).alloc (.cells #[.bool false, .slice A' x0'.length c', .slice B' y0'.length d'] 25) := ⟨_, rfl⟩
  have hbl : Below w.heap.size w wa := by rw [hwa]; exact bel_alloc (bel_alloc (bel_refl _) _) _
  have CX : Blk wa (w.heap.size) 25 #[.bool false, .slice A x0.length c, .slice B y0.length d] := by
    have hz := Blk.new (w) 25 #[.bool false, .slice A x0.length c, .slice B y0.length d]
    rw [hwa]
    exact (hz.alloc _)
  have CY : Blk wa (w.heap.size + 1) 25 #[.bool false, .slice A' x0'.length c', .slice B' y0'.length d'] := by
    have hz := Blk.new (w.alloc (.cells #[.bool false, .slice A x0.length c, .slice B y0.length d] 25)) 25 #[.bool false, .slice A' x0'.length c', .slice B' y0'.length d']
    rw [World.size_alloc] at hz
    rw [hwa]
    exact hz
  replace R1 := Lib.hid (R1.out.below hbl)
  replace R2 := Lib.hid (R2.out.below hbl)
  replace R3 := Lib.hid (R3.out.below hbl)
  replace R4 := Lib.hid (R4.out.below hbl)
  have HW := Lib.hid hbl; clear hbl
  replace CX := Lib.hid CX
  replace CY := Lib.hid CY
  go_enter Try.func6, Try.ntmps6
  go_wp2_with fail
  rw [← hwa]
  clear hwa
  refine wp_region_typed 4 (TOf [VIs (.agg #[.bool false, .slice A x0.length c, .slice B y0.length d]),
      VIs (.agg #[.bool false, .slice A (limbs n).length c, .slice B (limbs d0).length d]),
      VIs (.agg #[.bool false, .slice A' x0'.length c', .slice B' y0'.length d']),
      VIs (.agg #[.bool false, .slice A' (limbs m).length c', .slice B' (limbs f0).length d'])]) (by kernel_rfl) (by kernel_rfl) (by kernel_rfl) (LiftAll.at_ (.cons (VIs.lift _) (.cons (VIs.lift _) (.cons (VIs.lift _) (.cons (VIs.lift _) .nil))))) (steps_all (steps_cons ?_ (steps_cons ?_ (steps_cons ?_ (steps_cons ?_ steps_zero))))) ?fin
  · intro a0 w9 K9 hF hB hK hC
    have b2 := hF.base (k := 2) (v := .pointer (some ⟨w.heap.size, 0, none⟩)) (by kernel_rfl) rfl
    have x90 : w9.cell? ⟨w.heap.size, 0, none⟩ = some (.bool false) := (CX.out.below hB CX.out.lt).cell 0
    have x91 : w9.cell? ⟨w.heap.size, 1, none⟩ = some (.slice A x0.length c) := (CX.out.below hB CX.out.lt).cell 1
    have x92 : w9.cell? ⟨w.heap.size, 2, none⟩ = some (.slice B y0.length d) := (CX.out.below hB CX.out.lt).cell 2
    clear hF hB hK
    go_simp
    exact hC _ _ (bel_refl _) fun _ _ => rfl
  · intro a0 w9 K9 hF hB hK hC
    obtain ⟨v14, e14, z14⟩ := dep hK 0 (g := .data) (j := 0) (k := 14) rfl rfl rfl
    have z14 : v14 = .agg #[.bool false, .slice A x0.length c, .slice B y0.length d] := z14
    subst z14
    have HB9 := Lib.hid hB
    clear hF hB hK
    go_simp
    refine (fewQ_is false A B c d x0 y0 (limbs n) (limbs d0) _ F.out.1.1 F.out.1.2.1 F.out.1.2.2.1 F.out.1.2.2.2).mono ?_
    rintro e w7 ⟨rfl, hbl⟩
    exact hC _ _ hbl fun _ _ => rfl
  · intro a0 w9 K9 hF hB hK hC
    have b3 := hF.base (k := 3) (v := .pointer (some ⟨w.heap.size + 1, 0, none⟩)) (by kernel_rfl) rfl
    have x90 : w9.cell? ⟨w.heap.size + 1, 0, none⟩ = some (.bool false) := (CY.out.below hB CY.out.lt).cell 0
    have x91 : w9.cell? ⟨w.heap.size + 1, 1, none⟩ = some (.slice A' x0'.length c') := (CY.out.below hB CY.out.lt).cell 1
    have x92 : w9.cell? ⟨w.heap.size + 1, 2, none⟩ = some (.slice B' y0'.length d') := (CY.out.below hB CY.out.lt).cell 2
    clear hF hB hK
    go_simp
    exact hC _ _ (bel_refl _) fun _ _ => rfl
  · intro a0 w9 K9 hF hB hK hC
    obtain ⟨v16, e16, z16⟩ := dep hK 0 (g := .data) (j := 2) (k := 16) rfl rfl rfl
    have z16 : v16 = .agg #[.bool false, .slice A' x0'.length c', .slice B' y0'.length d'] := z16
    subst z16
    have HB9 := Lib.hid hB
    clear hF hB hK
    go_simp
    refine (fewQ_is false A' B' c' d' x0' y0' (limbs m) (limbs f0) _ F.out.2.1 F.out.2.2.1 F.out.2.2.2.1 F.out.2.2.2.2).mono ?_
    rintro e w7 ⟨rfl, hbl⟩
    exact hC _ _ hbl fun _ _ => rfl
  case fin =>
    intro a0 w9 hF hB hK
    have b2 := hF.base (k := 2) (v := .pointer (some ⟨w.heap.size, 0, none⟩)) (by kernel_rfl) rfl
    have b3 := hF.base (k := 3) (v := .pointer (some ⟨w.heap.size + 1, 0, none⟩)) (by kernel_rfl) rfl
    have hsz := hF.size
    have hdf := hF.defers
    clear hF
    obtain ⟨v15, e15, z15⟩ := known hK 1 (k := 15) (by decide) rfl
    have z15 : v15 = .agg #[.bool false, .slice A (limbs n).length c, .slice B (limbs d0).length d] := z15
    subst z15
    obtain ⟨v17, e17, z17⟩ := known hK 3 (k := 17) (by decide) rfl
    have z17 : v17 = .agg #[.bool false, .slice A' (limbs m).length c', .slice B' (limbs f0).length d'] := z17
    subst z17
    clear hK
    obtain ⟨⟨l0⟩, df⟩ := a0
    have hs0 : l0.length = 131 := hsz
    clear hsz
    replace hdf : df = _ := hdf
    subst hdf
    obtain ⟨u, rfl⟩ := lits_131 hs0
    clear hs0
    have q2 : u 2 = _ := Option.some.inj b2
    clear b2
    have q3 : u 3 = _ := Option.some.inj b3
    clear b3
    have q15 : u 15 = _ := Option.some.inj e15
    clear e15
    have q17 : u 17 = _ := Option.some.inj e17
    clear e17
    rw [q2, q3, q15, q17]
    clear q2 q3 q15 q17
    have hbl := hB; clear hB
    replace R1 := Lib.hid (R1.out.below hbl)
    replace R2 := Lib.hid (R2.out.below hbl)
    replace R3 := Lib.hid (R3.out.below hbl)
    replace R4 := Lib.hid (R4.out.below hbl)
    replace CX := Lib.hid (CX.out.below hbl CX.out.lt)
    replace CY := Lib.hid (CY.out.below hbl CY.out.lt)
    replace HW := Lib.hid (bel_trans HW.out hbl); clear hbl
    simp only [List.drop_succ_cons, List.drop_zero]
    have pd0 := CX.out.cell 0
    have pf0 := CX.out.frozen 0
    have pd1 := CX.out.cell 1
    have pf1 := CX.out.frozen 1
    have pd2 := CX.out.cell 2
    have pf2 := CX.out.frozen 2
    have qd0 := CY.out.cell 0
    have qf0 := CY.out.frozen 0
    have qd1 := CY.out.cell 1
    have qf1 := CY.out.frozen 1
    have qd2 := CY.out.cell 2
    have qf2 := CY.out.frozen 2
    go_upto_region 2 with fail
    clear pd0 pf0 pd1 pf1 pd2 pf2 qd0 qf0 qd1 qf1 qd2 qf2
    obtain ⟨wf, hwf⟩ : ∃ wf, wf = ((((((w9.setCell ⟨w.heap.size, 0, none⟩ (.bool false)).setCell ⟨w.heap.size, 1, none⟩ (.slice A (limbs n).length c)).setCell ⟨w.heap.size, 2, none⟩ (.slice B (limbs d0).length d)).setCell ⟨w.heap.size + 1, 0, none⟩ (.bool false)).setCell ⟨w.heap.size + 1, 1, none⟩ (.slice A' (limbs m).length c')).setCell ⟨w.heap.size + 1, 2, none⟩ (.slice B' (limbs f0).length d')) := ⟨_, rfl⟩
    rw [← hwf]
    replace R1 := Lib.hid (show RdL wf _ _ by rw [hwf]; exact RdL.set3 ((((CY.out).far (p := ⟨w.heap.size, 0, none⟩) (by simp) _).far (p := ⟨w.heap.size, 1, none⟩) (by simp) _).far (p := ⟨w.heap.size, 2, none⟩) (by simp) _) (RdL.set3 (CX.out) (R1.out) _ _ _) _ _ _)
    replace R2 := Lib.hid (show RdL wf _ _ by rw [hwf]; exact RdL.set3 ((((CY.out).far (p := ⟨w.heap.size, 0, none⟩) (by simp) _).far (p := ⟨w.heap.size, 1, none⟩) (by simp) _).far (p := ⟨w.heap.size, 2, none⟩) (by simp) _) (RdL.set3 (CX.out) (R2.out) _ _ _) _ _ _)
    replace R3 := Lib.hid (show RdL wf _ _ by rw [hwf]; exact RdL.set3 ((((CY.out).far (p := ⟨w.heap.size, 0, none⟩) (by simp) _).far (p := ⟨w.heap.size, 1, none⟩) (by simp) _).far (p := ⟨w.heap.size, 2, none⟩) (by simp) _) (RdL.set3 (CX.out) (R3.out) _ _ _) _ _ _)
    replace R4 := Lib.hid (show RdL wf _ _ by rw [hwf]; exact RdL.set3 ((((CY.out).far (p := ⟨w.heap.size, 0, none⟩) (by simp) _).far (p := ⟨w.heap.size, 1, none⟩) (by simp) _).far (p := ⟨w.heap.size, 2, none⟩) (by simp) _) (RdL.set3 (CX.out) (R4.out) _ _ _) _ _ _)
    have CX_ := Lib.hid (show Blk wf (w.heap.size) 25 #[.bool false, .slice A (limbs n).length c, .slice B (limbs d0).length d] by rw [hwf]; exact ((((((CX.out).put 0 (.bool false)).put 1 (.slice A (limbs n).length c)).put 2 (.slice B (limbs d0).length d)).far (p := ⟨w.heap.size + 1, 0, none⟩) (by simp) _).far (p := ⟨w.heap.size + 1, 1, none⟩) (by simp) _).far (p := ⟨w.heap.size + 1, 2, none⟩) (by simp) _)
    have CY_ := Lib.hid (show Blk wf (w.heap.size + 1) 25 #[.bool false, .slice A' (limbs m).length c', .slice B' (limbs f0).length d'] by rw [hwf]; exact ((((((CY.out).far (p := ⟨w.heap.size, 0, none⟩) (by simp) _).far (p := ⟨w.heap.size, 1, none⟩) (by simp) _).far (p := ⟨w.heap.size, 2, none⟩) (by simp) _).put 0 (.bool false)).put 1 (.slice A' (limbs m).length c')).put 2 (.slice B' (limbs f0).length d'))
    replace CX := CX_; clear CX_
    replace CY := CY_; clear CY_
    replace HW := Lib.hid (show Below w.heap.size w wf by rw [hwf]; exact bel_set (p := ⟨w.heap.size + 1, 2, none⟩) (bel_set (p := ⟨w.heap.size + 1, 1, none⟩) (bel_set (p := ⟨w.heap.size + 1, 0, none⟩) (bel_set (p := ⟨w.heap.size, 2, none⟩) (bel_set (p := ⟨w.heap.size, 1, none⟩) (bel_set (p := ⟨w.heap.size, 0, none⟩) (HW.out) (by show w.heap.size ≤ w.heap.size; omega) _) (by show w.heap.size ≤ w.heap.size; omega) _) (by show w.heap.size ≤ w.heap.size; omega) _) (by show w.heap.size ≤ w.heap.size + 1; omega) _) (by show w.heap.size ≤ w.heap.size + 1; omega) _) (by show w.heap.size ≤ w.heap.size + 1; omega) _)
    clear hwf
    have CX0 : wf.cell? ⟨w.heap.size, 0, none⟩ = some (.bool false) := CX.out.cell 0
    have CX1 : wf.cell? ⟨w.heap.size, 1, none⟩ = some (.slice A (limbs n).length c) := CX.out.cell 1
    have CX2 : wf.cell? ⟨w.heap.size, 2, none⟩ = some (.slice B (limbs d0).length d) := CX.out.cell 2
    have CY0 : wf.cell? ⟨w.heap.size + 1, 0, none⟩ = some (.bool false) := CY.out.cell 0
    have CY1 : wf.cell? ⟨w.heap.size + 1, 1, none⟩ = some (.slice A' (limbs m).length c') := CY.out.cell 1
    have CY2 : wf.cell? ⟨w.heap.size + 1, 2, none⟩ = some (.slice B' (limbs f0).length d') := CY.out.cell 2
    go_wp2_with fail
    refine (qcmp_is (v := cmpI (x : Int) (y : Int)) A B A' B' c d c' d' ⟨false, n, d0⟩ ⟨false, m, f0⟩ _ R1.out R2.out R3.out R4.out KC.out.1 KC.out.2.1 KC.out.2.2.1 KC.out.2.2.2 HQ.out.1 HQ.out.2.1 HP.out.1 HP.out.2.1 HQ.out.2.2 HP.out.2.2 (by show n * f0 < Top ∧ m * d0 < Top; rw [HXY.out.1, HXY.out.2]; exact ⟨HF.out, HF2.out⟩) (by show cmpS false false (n * f0) (m * d0) = _; rw [HXY.out.1, HXY.out.2]; exact cmpS_ff x y)).mono ?_
    rintro e w1 ⟨rfl, hbl⟩
    replace R1 := Lib.hid (R1.out.below hbl)
    replace R2 := Lib.hid (R2.out.below hbl)
    replace R3 := Lib.hid (R3.out.below hbl)
    replace R4 := Lib.hid (R4.out.below hbl)
    replace CX := Lib.hid (CX.out.below hbl CX.out.lt)
    replace CY := Lib.hid (CY.out.below hbl CY.out.lt)
    replace HW := Lib.hid (bel_trans HW.out hbl); clear hbl
    clear CX0 CX1 CX2 CY0 CY1 CY2
    have CX0 : w1.cell? ⟨w.heap.size, 0, none⟩ = some (.bool false) := CX.out.cell 0
    have CX1 : w1.cell? ⟨w.heap.size, 1, none⟩ = some (.slice A (limbs n).length c) := CX.out.cell 1
    have CX2 : w1.cell? ⟨w.heap.size, 2, none⟩ = some (.slice B (limbs d0).length d) := CX.out.cell 2
    have CY0 : w1.cell? ⟨w.heap.size + 1, 0, none⟩ = some (.bool false) := CY.out.cell 0
    have CY1 : w1.cell? ⟨w.heap.size + 1, 1, none⟩ = some (.slice A' (limbs m).length c') := CY.out.cell 1
    have CY2 : w1.cell? ⟨w.heap.size + 1, 2, none⟩ = some (.slice B' (limbs f0).length d') := CY.out.cell 2
    go_wp2_with fail
    refine (trunc_q ⟨false, n, d0⟩ A B c d _ R1.out R2.out KC.out.1 KC.out.2.1 HQ.out.1 HQ.out.2.1 HQ.out.2.2 HT.out).mono ?_
    rintro e w2 ⟨vx, vy, rfl, hnx, hny, hbl⟩
    replace R1 := Lib.hid (R1.out.below hbl)
    replace R2 := Lib.hid (R2.out.below hbl)
    replace R3 := Lib.hid (R3.out.below hbl)
    replace R4 := Lib.hid (R4.out.below hbl)
    replace CX := Lib.hid (CX.out.below hbl CX.out.lt)
    replace CY := Lib.hid (CY.out.below hbl CY.out.lt)
    replace HW := Lib.hid (bel_trans HW.out hbl); clear hbl
    clear CX0 CX1 CX2 CY0 CY1 CY2
    have CX0 : w2.cell? ⟨w.heap.size, 0, none⟩ = some (.bool false) := CX.out.cell 0
    have CX1 : w2.cell? ⟨w.heap.size, 1, none⟩ = some (.slice A (limbs n).length c) := CX.out.cell 1
    have CX2 : w2.cell? ⟨w.heap.size, 2, none⟩ = some (.slice B (limbs d0).length d) := CX.out.cell 2
    have CY0 : w2.cell? ⟨w.heap.size + 1, 0, none⟩ = some (.bool false) := CY.out.cell 0
    have CY1 : w2.cell? ⟨w.heap.size + 1, 1, none⟩ = some (.slice A' (limbs m).length c') := CY.out.cell 1
    have CY2 : w2.cell? ⟨w.heap.size + 1, 2, none⟩ = some (.slice B' (limbs f0).length d') := CY.out.cell 2
    have HNx := Lib.hid hnx; clear hnx
    obtain ⟨Ax, cx, rfl, hcx, hrx⟩ := HNx.out.row
    have Rx := Lib.hid hrx; have HCx := Lib.hid hcx; clear hrx hcx
    have HNy := Lib.hid hny; clear hny
    obtain ⟨Ay, cy, rfl, hcy, hry⟩ := HNy.out.row
    have Ry := Lib.hid hry; have HCy := Lib.hid hcy; clear hry hcy
    go_upto_region 4 with fail
    obtain ⟨wm, hwm⟩ : ∃ wm, wm = w2.alloc (.cells #[.bool t.s, .slice Ax (limbs t.n).length cx, .slice Ay (limbs t.d).length cy] 25) := ⟨_, rfl⟩
    rw [← hwm]
    have hbl : Below w2.heap.size w2 wm := by rw [hwm]; exact bel_alloc (bel_refl _) _
    have VX : Blk wm (w2.heap.size) 25 #[.bool t.s, .slice Ax (limbs t.n).length cx, .slice Ay (limbs t.d).length cy] := by
      have hz := Blk.new (w2) 25 #[.bool t.s, .slice Ax (limbs t.n).length cx, .slice Ay (limbs t.d).length cy]
      rw [hwm]
      exact hz
    clear hwm
    replace R1 := Lib.hid (R1.out.below hbl)
    replace R2 := Lib.hid (R2.out.below hbl)
    replace R3 := Lib.hid (R3.out.below hbl)
    replace R4 := Lib.hid (R4.out.below hbl)
    replace Rx := Lib.hid (Rx.out.below hbl)
    replace HNx := Lib.hid (HNx.out.below hbl)
    replace Ry := Lib.hid (Ry.out.below hbl)
    replace HNy := Lib.hid (HNy.out.below hbl)
    replace CX := Lib.hid (CX.out.below hbl CX.out.lt)
    replace CY := Lib.hid (CY.out.below hbl CY.out.lt)
    replace HW := Lib.hid (bel_trans HW.out hbl); clear hbl
    replace VX := Lib.hid VX
    clear CX0 CX1 CX2 CY0 CY1 CY2
    have CX0 : wm.cell? ⟨w.heap.size, 0, none⟩ = some (.bool false) := CX.out.cell 0
    have CX1 : wm.cell? ⟨w.heap.size, 1, none⟩ = some (.slice A (limbs n).length c) := CX.out.cell 1
    have CX2 : wm.cell? ⟨w.heap.size, 2, none⟩ = some (.slice B (limbs d0).length d) := CX.out.cell 2
    have CY0 : wm.cell? ⟨w.heap.size + 1, 0, none⟩ = some (.bool false) := CY.out.cell 0
    have CY1 : wm.cell? ⟨w.heap.size + 1, 1, none⟩ = some (.slice A' (limbs m).length c') := CY.out.cell 1
    have CY2 : wm.cell? ⟨w.heap.size + 1, 2, none⟩ = some (.slice B' (limbs f0).length d') := CY.out.cell 2
    have VX0 : wm.cell? ⟨w2.heap.size, 0, none⟩ = some (.bool t.s) := VX.out.cell 0
    have VX1 : wm.cell? ⟨w2.heap.size, 1, none⟩ = some (.slice Ax (limbs t.n).length cx) := VX.out.cell 1
    have VX2 : wm.cell? ⟨w2.heap.size, 2, none⟩ = some (.slice Ay (limbs t.d).length cy) := VX.out.cell 2
    go_wp2_with fail
    refine (refRatRight_is false A B c d (limbs n) (limbs d0) _ R1.out R2.out M.out.1 M.out.2.1 L18.out.1 L18.out.2.1 HR.out).mono ?_
    rintro e w3 ⟨rfl, hbl⟩
    replace R1 := Lib.hid (R1.out.below hbl)
    replace R2 := Lib.hid (R2.out.below hbl)
    replace R3 := Lib.hid (R3.out.below hbl)
    replace R4 := Lib.hid (R4.out.below hbl)
    replace Rx := Lib.hid (Rx.out.below hbl)
    replace HNx := Lib.hid (HNx.out.below hbl)
    replace Ry := Lib.hid (Ry.out.below hbl)
    replace HNy := Lib.hid (HNy.out.below hbl)
    replace CX := Lib.hid (CX.out.below hbl CX.out.lt)
    replace CY := Lib.hid (CY.out.below hbl CY.out.lt)
    replace VX := Lib.hid (VX.out.below hbl VX.out.lt)
    replace HW := Lib.hid (bel_trans HW.out hbl); clear hbl
    clear CX0 CX1 CX2 CY0 CY1 CY2 VX0 VX1 VX2
    have CX0 : w3.cell? ⟨w.heap.size, 0, none⟩ = some (.bool false) := CX.out.cell 0
    have CX1 : w3.cell? ⟨w.heap.size, 1, none⟩ = some (.slice A (limbs n).length c) := CX.out.cell 1
    have CX2 : w3.cell? ⟨w.heap.size, 2, none⟩ = some (.slice B (limbs d0).length d) := CX.out.cell 2
    have CY0 : w3.cell? ⟨w.heap.size + 1, 0, none⟩ = some (.bool false) := CY.out.cell 0
    have CY1 : w3.cell? ⟨w.heap.size + 1, 1, none⟩ = some (.slice A' (limbs m).length c') := CY.out.cell 1
    have CY2 : w3.cell? ⟨w.heap.size + 1, 2, none⟩ = some (.slice B' (limbs f0).length d') := CY.out.cell 2
    have VX0 : w3.cell? ⟨w2.heap.size, 0, none⟩ = some (.bool t.s) := VX.out.cell 0
    have VX1 : w3.cell? ⟨w2.heap.size, 1, none⟩ = some (.slice Ax (limbs t.n).length cx) := VX.out.cell 1
    have VX2 : w3.cell? ⟨w2.heap.size, 2, none⟩ = some (.slice Ay (limbs t.d).length cy) := VX.out.cell 2
    go_wp2_with fail
    refine (refOf_any false A B c d n d0 _ R1.out R2.out HQ.out.1 HQ.out.2.1).mono ?_
    rintro e w4 ⟨rfl, hbl⟩
    replace R1 := Lib.hid (R1.out.below hbl)
    replace R2 := Lib.hid (R2.out.below hbl)
    replace R3 := Lib.hid (R3.out.below hbl)
    replace R4 := Lib.hid (R4.out.below hbl)
    replace Rx := Lib.hid (Rx.out.below hbl)
    replace HNx := Lib.hid (HNx.out.below hbl)
    replace Ry := Lib.hid (Ry.out.below hbl)
    replace HNy := Lib.hid (HNy.out.below hbl)
    replace CX := Lib.hid (CX.out.below hbl CX.out.lt)
    replace CY := Lib.hid (CY.out.below hbl CY.out.lt)
    replace VX := Lib.hid (VX.out.below hbl VX.out.lt)
    replace HW := Lib.hid (bel_trans HW.out hbl); clear hbl
    clear CX0 CX1 CX2 CY0 CY1 CY2 VX0 VX1 VX2
    have CX0 : w4.cell? ⟨w.heap.size, 0, none⟩ = some (.bool false) := CX.out.cell 0
    have CX1 : w4.cell? ⟨w.heap.size, 1, none⟩ = some (.slice A (limbs n).length c) := CX.out.cell 1
    have CX2 : w4.cell? ⟨w.heap.size, 2, none⟩ = some (.slice B (limbs d0).length d) := CX.out.cell 2
    have CY0 : w4.cell? ⟨w.heap.size + 1, 0, none⟩ = some (.bool false) := CY.out.cell 0
    have CY1 : w4.cell? ⟨w.heap.size + 1, 1, none⟩ = some (.slice A' (limbs m).length c') := CY.out.cell 1
    have CY2 : w4.cell? ⟨w.heap.size + 1, 2, none⟩ = some (.slice B' (limbs f0).length d') := CY.out.cell 2
    have VX0 : w4.cell? ⟨w2.heap.size, 0, none⟩ = some (.bool t.s) := VX.out.cell 0
    have VX1 : w4.cell? ⟨w2.heap.size, 1, none⟩ = some (.slice Ax (limbs t.n).length cx) := VX.out.cell 1
    have VX2 : w4.cell? ⟨w2.heap.size, 2, none⟩ = some (.slice Ay (limbs t.d).length cy) := VX.out.cell 2
    go_upto_region 7 with fail
    obtain ⟨wn, hwn⟩ : ∃ wn, wn = w4.alloc (.cells #[.bool false, .string (dec n), .string (dec d0), .bool false] 49) := ⟨_, rfl⟩
    rw [← hwn]
    have hbl : Below w4.heap.size w4 wn := by rw [hwn]; exact bel_alloc (bel_refl _) _
    have VF : Blk wn (w4.heap.size) 49 #[.bool false, .string (dec n), .string (dec d0), .bool false] := by
      have hz := Blk.new (w4) 49 #[.bool false, .string (dec n), .string (dec d0), .bool false]
      rw [hwn]
      exact hz
    clear hwn
    replace R1 := Lib.hid (R1.out.below hbl)
    replace R2 := Lib.hid (R2.out.below hbl)
    replace R3 := Lib.hid (R3.out.below hbl)
    replace R4 := Lib.hid (R4.out.below hbl)
    replace Rx := Lib.hid (Rx.out.below hbl)
    replace HNx := Lib.hid (HNx.out.below hbl)
    replace Ry := Lib.hid (Ry.out.below hbl)
    replace HNy := Lib.hid (HNy.out.below hbl)
    replace CX := Lib.hid (CX.out.below hbl CX.out.lt)
    replace CY := Lib.hid (CY.out.below hbl CY.out.lt)
    replace VX := Lib.hid (VX.out.below hbl VX.out.lt)
    replace HW := Lib.hid (bel_trans HW.out hbl); clear hbl
    replace VF := Lib.hid VF
    clear CX0 CX1 CX2 CY0 CY1 CY2 VX0 VX1 VX2
    have CX0 : wn.cell? ⟨w.heap.size, 0, none⟩ = some (.bool false) := CX.out.cell 0
    have CX1 : wn.cell? ⟨w.heap.size, 1, none⟩ = some (.slice A (limbs n).length c) := CX.out.cell 1
    have CX2 : wn.cell? ⟨w.heap.size, 2, none⟩ = some (.slice B (limbs d0).length d) := CX.out.cell 2
    have CY0 : wn.cell? ⟨w.heap.size + 1, 0, none⟩ = some (.bool false) := CY.out.cell 0
    have CY1 : wn.cell? ⟨w.heap.size + 1, 1, none⟩ = some (.slice A' (limbs m).length c') := CY.out.cell 1
    have CY2 : wn.cell? ⟨w.heap.size + 1, 2, none⟩ = some (.slice B' (limbs f0).length d') := CY.out.cell 2
    have VX0 : wn.cell? ⟨w2.heap.size, 0, none⟩ = some (.bool t.s) := VX.out.cell 0
    have VX1 : wn.cell? ⟨w2.heap.size, 1, none⟩ = some (.slice Ax (limbs t.n).length cx) := VX.out.cell 1
    have VX2 : wn.cell? ⟨w2.heap.size, 2, none⟩ = some (.slice Ay (limbs t.d).length cy) := VX.out.cell 2
    have VF0 : wn.cell? ⟨w4.heap.size, 0, none⟩ = some (.bool false) := VF.out.cell 0
    have VF1 : wn.cell? ⟨w4.heap.size, 1, none⟩ = some (.string (dec n)) := VF.out.cell 1
    have VF2 : wn.cell? ⟨w4.heap.size, 2, none⟩ = some (.string (dec d0)) := VF.out.cell 2
    have VF3 : wn.cell? ⟨w4.heap.size, 3, none⟩ = some (.bool false) := VF.out.cell 3
    have hfd := fun W => field_q (dec (n / d0)) (dec (n % d0)) W
    refine wp_region_typedG 21 (TOf [VIs (.int .i64 0),
        VIs (.bool false),
        VIs (.bool false),
        VIs (.agg #[.bool t.s, .slice Ax (limbs t.n).length cx, .slice Ay (limbs t.d).length cy]),
        VIs (.pointer (some ⟨w4.heap.size, 0, none⟩)),
        VIs (.bool false),
        VIs (.pointer (some ⟨w4.heap.size, 1, none⟩)),
        VIs (.string (dec n)),
        VIs (.pointer (some ⟨w4.heap.size, 2, none⟩)),
        VIs (.string (dec d0)),
        VIs (.agg #[.string (dec (n / d0)), .string (dec (n % d0))]),
        VIs (.string (dec (n / d0))),
        VIs (.agg #[.bool false, .string (dec (n / d0)), .string ⟨#[49]⟩, .bool false]),
        VIs (.agg #[.bool t.s, .string (dec t.n), .string (dec t.d), .bool false]),
        VIs (.bool true),
        VIs (.bool false),
        VIs (.bool false),
        VIs (.bool false),
        VIs (.bool true),
        VIs (.bool false),
        VIs (.bool false)]) (by kernel_rfl) (by kernel_rfl) (by kernel_rfl) (LiftAll.at_ (.cons (VIs.lift _) (.cons (VIs.lift _) (.cons (VIs.lift _) (.cons (VIs.lift _) (.cons (VIs.lift _) (.cons (VIs.lift _) (.cons (VIs.lift _) (.cons (VIs.lift _) (.cons (VIs.lift _) (.cons (VIs.lift _) (.cons (VIs.lift _) (.cons (VIs.lift _) (.cons (VIs.lift _) (.cons (VIs.lift _) (.cons (VIs.lift _) (.cons (VIs.lift _) (.cons (VIs.lift _) (.cons (VIs.lift _) (.cons (VIs.lift _) (.cons (VIs.lift _) (.cons (VIs.lift _) .nil)))))))))))))))))))))) (stepsG_all (stepsG_cons ?_ (stepsG_cons ?_ (stepsG_cons ?_ (stepsG_cons ?_ (stepsG_cons ?_ (stepsG_cons ?_ (stepsG_cons ?_ (stepsG_cons ?_ (stepsG_cons ?_ (stepsG_cons ?_ (stepsG_cons ?_ (stepsG_cons ?_ (stepsG_cons ?_ (stepsG_cons ?_ (stepsG_cons ?_ (stepsG_cons ?_ (stepsG_cons ?_ (stepsG_cons ?_ (stepsG_cons ?_ (stepsG_cons ?_ (stepsG_cons ?_ stepsG_zero)))))))))))))))))))))) ?fin
    · refine stepG_plain rfl ?_
      intro a0 w9 K9 hF hB hK hC
      have b8 := hF.base (k := 8) (v := .int .i64 0) (by kernel_rfl) rfl
      clear hF hB hK
      go_simp
      exact hC _ _ (bel_refl _) fun _ _ => rfl
    · refine stepG_plain rfl ?_
      intro a0 w9 K9 hF hB hK hC
      obtain ⟨v52, e52, z52⟩ := dep hK 0 (g := .data) (j := 0) (k := 52) rfl rfl rfl
      have z52 : v52 = .int .i64 0 := z52
      subst z52
      have HB9 := Lib.hid hB
      clear hF hB hK
      go_simp
      exact hC _ _ (bel_refl _) fun _ _ => rfl
    · refine stepG_plain rfl ?_
      intro a0 w9 K9 hF hB hK hC
      obtain ⟨v53, e53, z53⟩ := dep hK 0 (g := .data) (j := 1) (k := 53) rfl rfl rfl
      have z53 : v53 = .bool false := z53
      subst z53
      clear hF hB hK
      go_simp
      exact hC _ _ (bel_refl _) fun _ _ => rfl
    · intro a0 w9 K9 hF hB hK hC
      obtain ⟨vg, eg, zg⟩ := dep hK 0 (g := .guard) (j := 2) (k := 54) rfl rfl rfl
      have zg : vg = .bool false := zg
      subst zg
      refine guard_in (j := 2) (k := 54) (want := false) rfl rfl eg rfl ?_
      have b7 := hF.base (k := 7) (v := .pointer (some ⟨w2.heap.size, 0, none⟩)) (by kernel_rfl) rfl
      have x90 : w9.cell? ⟨w2.heap.size, 0, none⟩ = some (.bool t.s) := (VX.out.below hB VX.out.lt).cell 0
      have x91 : w9.cell? ⟨w2.heap.size, 1, none⟩ = some (.slice Ax (limbs t.n).length cx) := (VX.out.below hB VX.out.lt).cell 1
      have x92 : w9.cell? ⟨w2.heap.size, 2, none⟩ = some (.slice Ay (limbs t.d).length cy) := (VX.out.below hB VX.out.lt).cell 2
      clear hF hB hK
      go_simp
      exact hC _ _ (bel_refl _) fun _ _ => rfl
    · intro a0 w9 K9 hF hB hK hC
      obtain ⟨vg, eg, zg⟩ := dep hK 0 (g := .guard) (j := 2) (k := 54) rfl rfl rfl
      have zg : vg = .bool false := zg
      subst zg
      refine guard_in (j := 2) (k := 54) (want := false) rfl rfl eg rfl ?_
      have b9 := hF.base (k := 9) (v := .pointer (some ⟨w4.heap.size, 0, none⟩)) (by kernel_rfl) rfl
      clear hF hB hK
      go_simp
      exact hC _ _ (bel_refl _) fun _ _ => rfl
    · intro a0 w9 K9 hF hB hK hC
      obtain ⟨vg, eg, zg⟩ := dep hK 1 (g := .guard) (j := 2) (k := 54) rfl rfl rfl
      have zg : vg = .bool false := zg
      subst zg
      refine guard_in (j := 2) (k := 54) (want := false) rfl rfl eg rfl ?_
      obtain ⟨v56, e56, z56⟩ := dep hK 0 (g := .data) (j := 4) (k := 56) rfl rfl rfl
      have z56 : v56 = .pointer (some ⟨w4.heap.size, 0, none⟩) := z56
      subst z56
      have x9 : w9.cell? ⟨w4.heap.size, 0, none⟩ = some (.bool false) := (VF.out.below hB VF.out.lt).cell 0
      clear hF hB hK
      go_simp
      exact hC _ _ (bel_refl _) fun _ _ => rfl
    · intro a0 w9 K9 hF hB hK hC
      obtain ⟨vg, eg, zg⟩ := dep hK 0 (g := .guard) (j := 2) (k := 54) rfl rfl rfl
      have zg : vg = .bool false := zg
      subst zg
      refine guard_in (j := 2) (k := 54) (want := false) rfl rfl eg rfl ?_
      have b9 := hF.base (k := 9) (v := .pointer (some ⟨w4.heap.size, 0, none⟩)) (by kernel_rfl) rfl
      clear hF hB hK
      go_simp
      exact hC _ _ (bel_refl _) fun _ _ => rfl
    · intro a0 w9 K9 hF hB hK hC
      obtain ⟨vg, eg, zg⟩ := dep hK 1 (g := .guard) (j := 2) (k := 54) rfl rfl rfl
      have zg : vg = .bool false := zg
      subst zg
      refine guard_in (j := 2) (k := 54) (want := false) rfl rfl eg rfl ?_
      obtain ⟨v58, e58, z58⟩ := dep hK 0 (g := .data) (j := 6) (k := 58) rfl rfl rfl
      have z58 : v58 = .pointer (some ⟨w4.heap.size, 1, none⟩) := z58
      subst z58
      have x9 : w9.cell? ⟨w4.heap.size, 1, none⟩ = some (.string (dec n)) := (VF.out.below hB VF.out.lt).cell 1
      clear hF hB hK
      go_simp
      exact hC _ _ (bel_refl _) fun _ _ => rfl
    · intro a0 w9 K9 hF hB hK hC
      obtain ⟨vg, eg, zg⟩ := dep hK 0 (g := .guard) (j := 2) (k := 54) rfl rfl rfl
      have zg : vg = .bool false := zg
      subst zg
      refine guard_in (j := 2) (k := 54) (want := false) rfl rfl eg rfl ?_
      have b9 := hF.base (k := 9) (v := .pointer (some ⟨w4.heap.size, 0, none⟩)) (by kernel_rfl) rfl
      clear hF hB hK
      go_simp
      exact hC _ _ (bel_refl _) fun _ _ => rfl
    · intro a0 w9 K9 hF hB hK hC
      obtain ⟨vg, eg, zg⟩ := dep hK 1 (g := .guard) (j := 2) (k := 54) rfl rfl rfl
      have zg : vg = .bool false := zg
      subst zg
      refine guard_in (j := 2) (k := 54) (want := false) rfl rfl eg rfl ?_
      obtain ⟨v60, e60, z60⟩ := dep hK 0 (g := .data) (j := 8) (k := 60) rfl rfl rfl
      have z60 : v60 = .pointer (some ⟨w4.heap.size, 2, none⟩) := z60
      subst z60
      have x9 : w9.cell? ⟨w4.heap.size, 2, none⟩ = some (.string (dec d0)) := (VF.out.below hB VF.out.lt).cell 2
      clear hF hB hK
      go_simp
      exact hC _ _ (bel_refl _) fun _ _ => rfl
    · intro a0 w9 K9 hF hB hK hC
      obtain ⟨vg, eg, zg⟩ := dep hK 3 (g := .guard) (j := 2) (k := 54) rfl rfl rfl
      have zg : vg = .bool false := zg
      subst zg
      refine guard_in (j := 2) (k := 54) (want := false) rfl rfl eg rfl ?_
      obtain ⟨v59, e59, z59⟩ := dep hK 0 (g := .data) (j := 7) (k := 59) rfl rfl rfl
      have z59 : v59 = .string (dec n) := z59
      subst z59
      obtain ⟨v61, e61, z61⟩ := dep hK 1 (g := .data) (j := 9) (k := 61) rfl rfl rfl
      have z61 : v61 = .string (dec d0) := z61
      subst z61
      have HB9 := Lib.hid hB
      clear hF hB hK
      go_simp
      refine (refDiv_any n d0 _ (by have := decL_top HQ.out.1; omega) (by have := decL_top HQ.out.2.1; omega) HQ.out.2.2.den).mono ?_
      rintro e w7 ⟨rfl, hbl⟩
      exact hC _ _ hbl fun _ _ => rfl
    · intro a0 w9 K9 hF hB hK hC
      obtain ⟨vg, eg, zg⟩ := dep hK 1 (g := .guard) (j := 2) (k := 54) rfl rfl rfl
      have zg : vg = .bool false := zg
      subst zg
      refine guard_in (j := 2) (k := 54) (want := false) rfl rfl eg rfl ?_
      obtain ⟨v62, e62, z62⟩ := dep hK 0 (g := .data) (j := 10) (k := 62) rfl rfl rfl
      have z62 : v62 = .agg #[.string (dec (n / d0)), .string (dec (n % d0))] := z62
      subst z62
      have HB9 := Lib.hid hB
      clear hF hB hK
      go_simp
      exact hC _ _ (bel_refl _) fun _ _ => rfl
    · intro a0 w9 K9 hF hB hK hC
      obtain ⟨vg, eg, zg⟩ := dep hK 2 (g := .guard) (j := 2) (k := 54) rfl rfl rfl
      have zg : vg = .bool false := zg
      subst zg
      refine guard_in (j := 2) (k := 54) (want := false) rfl rfl eg rfl ?_
      obtain ⟨v57, e57, z57⟩ := dep hK 0 (g := .data) (j := 5) (k := 57) rfl rfl rfl
      have z57 : v57 = .bool false := z57
      subst z57
      obtain ⟨v63, e63, z63⟩ := dep hK 1 (g := .data) (j := 11) (k := 63) rfl rfl rfl
      have z63 : v63 = .string (dec (n / d0)) := z63
      subst z63
      have HB9 := Lib.hid hB
      clear hF hB hK
      go_simp
      exact hC _ _ (bel_refl _) fun _ _ => rfl
    · intro a0 w9 K9 hF hB hK hC
      obtain ⟨vg, eg, zg⟩ := dep hK 2 (g := .guard) (j := 2) (k := 54) rfl rfl rfl
      have zg : vg = .bool false := zg
      subst zg
      refine guard_in (j := 2) (k := 54) (want := false) rfl rfl eg rfl ?_
      obtain ⟨v64, e64, z64⟩ := dep hK 0 (g := .data) (j := 12) (k := 64) rfl rfl rfl
      have z64 : v64 = .agg #[.bool false, .string (dec (n / d0)), .string ⟨#[49]⟩, .bool false] := z64
      subst z64
      have HB9 := Lib.hid hB
      clear hF hB hK
      rw [← dec_one] at e64
      go_simp
      refine (refRed_fit false (n / d0) 1 _ (lt_top (Nat.div_le_self n d0) HQ.out.1) (small_top (by decide)) HT.out).mono ?_
      rintro e w7 ⟨rfl, hbl⟩
      exact hC _ _ hbl fun _ _ => rfl
    · intro a0 w9 K9 hF hB hK hC
      obtain ⟨vg, eg, zg⟩ := dep hK 3 (g := .guard) (j := 2) (k := 54) rfl rfl rfl
      have zg : vg = .bool false := zg
      subst zg
      refine guard_in (j := 2) (k := 54) (want := false) rfl rfl eg rfl ?_
      obtain ⟨v55, e55, z55⟩ := dep hK 0 (g := .data) (j := 3) (k := 55) rfl rfl rfl
      have z55 : v55 = .agg #[.bool t.s, .slice Ax (limbs t.n).length cx, .slice Ay (limbs t.d).length cy] := z55
      subst z55
      obtain ⟨v65, e65, z65⟩ := dep hK 1 (g := .data) (j := 13) (k := 65) rfl rfl rfl
      have z65 : v65 = .agg #[.bool t.s, .string (dec t.n), .string (dec t.d), .bool false] := z65
      subst z65
      have HB9 := Lib.hid hB
      clear hF hB hK
      go_simp
      refine (refIs_true t false Ax Ay cx cy _ (Rx.out.below HB9.out) (Ry.out.below HB9.out) HTF.out.1 HTF.out.2.1 HTF.out.2.2).mono ?_
      rintro e w7 ⟨rfl, hbl⟩
      exact hC _ _ hbl fun _ _ => rfl
    · intro a0 w9 K9 hF hB hK hC
      obtain ⟨vg, eg, zg⟩ := dep hK 1 (g := .guard) (j := 2) (k := 54) rfl rfl rfl
      have zg : vg = .bool false := zg
      subst zg
      refine guard_in (j := 2) (k := 54) (want := false) rfl rfl eg rfl ?_
      obtain ⟨v66, e66, z66⟩ := dep hK 0 (g := .data) (j := 14) (k := 66) rfl rfl rfl
      have z66 : v66 = .bool true := z66
      subst z66
      have HB9 := Lib.hid hB
      clear hF hB hK
      go_simp
      exact hC _ _ (bel_refl _) fun _ _ => rfl
    · refine stepG_plain rfl ?_
      intro a0 w9 K9 hF hB hK hC
      obtain ⟨v54, e54, z54⟩ := dep hK 0 (g := .data) (j := 2) (k := 54) rfl rfl rfl
      have z54 : v54 = .bool false := z54
      subst z54
      obtain ⟨v67, e67, z67⟩ := dep hK 1 (g := .data) (j := 15) (k := 67) rfl rfl rfl
      have z67 : v67 = .bool false := z67
      subst z67
      have HB9 := Lib.hid hB
      clear hF hB hK
      go_simp
      exact hC _ _ (bel_refl _) fun _ _ => rfl
    · refine stepG_plain rfl ?_
      intro a0 w9 K9 hF hB hK hC
      obtain ⟨v68, e68, z68⟩ := dep hK 0 (g := .data) (j := 16) (k := 68) rfl rfl rfl
      have z68 : v68 = .bool false := z68
      subst z68
      clear hF hB hK
      go_simp
      exact hC _ _ (bel_refl _) fun _ _ => rfl
    · intro a0 w9 K9 hF hB hK hC
      obtain ⟨vg, eg, zg⟩ := dep hK 1 (g := .guard) (j := 17) (k := 69) rfl rfl rfl
      have zg : vg = .bool false := zg
      subst zg
      refine guard_in (j := 17) (k := 69) (want := false) rfl rfl eg rfl ?_
      have HB9 := Lib.hid hB
      clear hF hB hK
      go_simp
      refine (aliveQ _).mono ?_
      rintro e w7 ⟨rfl, hbl⟩
      exact hC _ _ hbl fun _ _ => rfl
    · intro a0 w9 K9 hF hB hK hC
      obtain ⟨vg, eg, zg⟩ := dep hK 1 (g := .guard) (j := 17) (k := 69) rfl rfl rfl
      have zg : vg = .bool false := zg
      subst zg
      refine guard_in (j := 17) (k := 69) (want := false) rfl rfl eg rfl ?_
      obtain ⟨v70, e70, z70⟩ := dep hK 0 (g := .data) (j := 18) (k := 70) rfl rfl rfl
      have z70 : v70 = .bool true := z70
      subst z70
      have HB9 := Lib.hid hB
      clear hF hB hK
      go_simp
      exact hC _ _ (bel_refl _) fun _ _ => rfl
    · refine stepG_plain rfl ?_
      intro a0 w9 K9 hF hB hK hC
      obtain ⟨v69, e69, z69⟩ := dep hK 0 (g := .data) (j := 17) (k := 69) rfl rfl rfl
      have z69 : v69 = .bool false := z69
      subst z69
      obtain ⟨v71, e71, z71⟩ := dep hK 1 (g := .data) (j := 19) (k := 71) rfl rfl rfl
      have z71 : v71 = .bool false := z71
      subst z71
      have HB9 := Lib.hid hB
      clear hF hB hK
      go_simp
      exact hC _ _ (bel_refl _) fun _ _ => rfl
    case fin =>
      intro a0 w9 hF hB hK
      have b2 := hF.base (k := 2) (v := .pointer (some ⟨w.heap.size, 0, none⟩)) (by kernel_rfl) rfl
      have b3 := hF.base (k := 3) (v := .pointer (some ⟨w.heap.size + 1, 0, none⟩)) (by kernel_rfl) rfl
      have b5 := hF.base (k := 5) (v := .int .i64 (cmpI (x : Int) (y : Int))) (by kernel_rfl) rfl
      have b6 := hF.base (k := 6) (v := .int .i64 0) (by kernel_rfl) rfl
      have b7 := hF.base (k := 7) (v := .pointer (some ⟨w2.heap.size, 0, none⟩)) (by kernel_rfl) rfl
      have b8 := hF.base (k := 8) (v := .int .i64 0) (by kernel_rfl) rfl
      have b9 := hF.base (k := 9) (v := .pointer (some ⟨w4.heap.size, 0, none⟩)) (by kernel_rfl) rfl
      have hsz := hF.size
      have hdf := hF.defers
      clear hF
      obtain ⟨v72, e72, z72⟩ := known hK 20 (k := 72) (by decide) rfl
      have z72 : v72 = .bool false := z72
      subst z72
      clear hK
      obtain ⟨⟨l0⟩, df⟩ := a0
      have hs0 : l0.length = 131 := hsz
      clear hsz
      replace hdf : df = _ := hdf
      subst hdf
      obtain ⟨u, rfl⟩ := lits_131 hs0
      clear hs0
      have q2 : u 2 = _ := Option.some.inj b2
      clear b2
      have q3 : u 3 = _ := Option.some.inj b3
      clear b3
      have q5 : u 5 = _ := Option.some.inj b5
      clear b5
      have q6 : u 6 = _ := Option.some.inj b6
      clear b6
      have q7 : u 7 = _ := Option.some.inj b7
      clear b7
      have q8 : u 8 = _ := Option.some.inj b8
      clear b8
      have q9 : u 9 = _ := Option.some.inj b9
      clear b9
      have q72 : u 72 = _ := Option.some.inj e72
      clear e72
      rw [q2, q3, q5, q6, q7, q8, q9, q72]
      clear q2 q3 q5 q6 q7 q8 q9 q72
      have hbl := hB; clear hB
      replace R1 := Lib.hid (R1.out.below hbl)
      replace R2 := Lib.hid (R2.out.below hbl)
      replace R3 := Lib.hid (R3.out.below hbl)
      replace R4 := Lib.hid (R4.out.below hbl)
      replace Rx := Lib.hid (Rx.out.below hbl)
      replace HNx := Lib.hid (HNx.out.below hbl)
      replace Ry := Lib.hid (Ry.out.below hbl)
      replace HNy := Lib.hid (HNy.out.below hbl)
      replace CX := Lib.hid (CX.out.below hbl CX.out.lt)
      replace CY := Lib.hid (CY.out.below hbl CY.out.lt)
      replace VX := Lib.hid (VX.out.below hbl VX.out.lt)
      replace VF := Lib.hid (VF.out.below hbl VF.out.lt)
      replace HW := Lib.hid (bel_trans HW.out hbl); clear hbl
      clear CX0 CX1 CX2 CY0 CY1 CY2 VX0 VX1 VX2 VF0 VF1 VF2 VF3
      have CX0 : w9.cell? ⟨w.heap.size, 0, none⟩ = some (.bool false) := CX.out.cell 0
      have CX1 : w9.cell? ⟨w.heap.size, 1, none⟩ = some (.slice A (limbs n).length c) := CX.out.cell 1
      have CX2 : w9.cell? ⟨w.heap.size, 2, none⟩ = some (.slice B (limbs d0).length d) := CX.out.cell 2
      have CY0 : w9.cell? ⟨w.heap.size + 1, 0, none⟩ = some (.bool false) := CY.out.cell 0
      have CY1 : w9.cell? ⟨w.heap.size + 1, 1, none⟩ = some (.slice A' (limbs m).length c') := CY.out.cell 1
      have CY2 : w9.cell? ⟨w.heap.size + 1, 2, none⟩ = some (.slice B' (limbs f0).length d') := CY.out.cell 2
      have VX0 : w9.cell? ⟨w2.heap.size, 0, none⟩ = some (.bool t.s) := VX.out.cell 0
      have VX1 : w9.cell? ⟨w2.heap.size, 1, none⟩ = some (.slice Ax (limbs t.n).length cx) := VX.out.cell 1
      have VX2 : w9.cell? ⟨w2.heap.size, 2, none⟩ = some (.slice Ay (limbs t.d).length cy) := VX.out.cell 2
      have VF0 : w9.cell? ⟨w4.heap.size, 0, none⟩ = some (.bool false) := VF.out.cell 0
      have VF1 : w9.cell? ⟨w4.heap.size, 1, none⟩ = some (.string (dec n)) := VF.out.cell 1
      have VF2 : w9.cell? ⟨w4.heap.size, 2, none⟩ = some (.string (dec d0)) := VF.out.cell 2
      have VF3 : w9.cell? ⟨w4.heap.size, 3, none⟩ = some (.bool false) := VF.out.cell 3
      refine wpList_nil ?_
      clear hfd
      go_wp2_with fail
      refine (refRatRight_is false A' B' c' d' (limbs m) (limbs f0) _ R3.out R4.out M.out.2.2.1 M.out.2.2.2 L18.out.2.2.1 L18.out.2.2.2 HRB.out).mono ?_
      rintro e w5 ⟨rfl, hbl⟩
      replace R1 := Lib.hid (R1.out.below hbl)
      replace R2 := Lib.hid (R2.out.below hbl)
      replace R3 := Lib.hid (R3.out.below hbl)
      replace R4 := Lib.hid (R4.out.below hbl)
      replace Rx := Lib.hid (Rx.out.below hbl)
      replace HNx := Lib.hid (HNx.out.below hbl)
      replace Ry := Lib.hid (Ry.out.below hbl)
      replace HNy := Lib.hid (HNy.out.below hbl)
      replace CX := Lib.hid (CX.out.below hbl CX.out.lt)
      replace CY := Lib.hid (CY.out.below hbl CY.out.lt)
      replace VX := Lib.hid (VX.out.below hbl VX.out.lt)
      replace VF := Lib.hid (VF.out.below hbl VF.out.lt)
      replace HW := Lib.hid (bel_trans HW.out hbl); clear hbl
      clear CX0 CX1 CX2 CY0 CY1 CY2 VX0 VX1 VX2 VF0 VF1 VF2 VF3
      have CX0 : w5.cell? ⟨w.heap.size, 0, none⟩ = some (.bool false) := CX.out.cell 0
      have CX1 : w5.cell? ⟨w.heap.size, 1, none⟩ = some (.slice A (limbs n).length c) := CX.out.cell 1
      have CX2 : w5.cell? ⟨w.heap.size, 2, none⟩ = some (.slice B (limbs d0).length d) := CX.out.cell 2
      have CY0 : w5.cell? ⟨w.heap.size + 1, 0, none⟩ = some (.bool false) := CY.out.cell 0
      have CY1 : w5.cell? ⟨w.heap.size + 1, 1, none⟩ = some (.slice A' (limbs m).length c') := CY.out.cell 1
      have CY2 : w5.cell? ⟨w.heap.size + 1, 2, none⟩ = some (.slice B' (limbs f0).length d') := CY.out.cell 2
      have VX0 : w5.cell? ⟨w2.heap.size, 0, none⟩ = some (.bool t.s) := VX.out.cell 0
      have VX1 : w5.cell? ⟨w2.heap.size, 1, none⟩ = some (.slice Ax (limbs t.n).length cx) := VX.out.cell 1
      have VX2 : w5.cell? ⟨w2.heap.size, 2, none⟩ = some (.slice Ay (limbs t.d).length cy) := VX.out.cell 2
      have VF0 : w5.cell? ⟨w4.heap.size, 0, none⟩ = some (.bool false) := VF.out.cell 0
      have VF1 : w5.cell? ⟨w4.heap.size, 1, none⟩ = some (.string (dec n)) := VF.out.cell 1
      have VF2 : w5.cell? ⟨w4.heap.size, 2, none⟩ = some (.string (dec d0)) := VF.out.cell 2
      have VF3 : w5.cell? ⟨w4.heap.size, 3, none⟩ = some (.bool false) := VF.out.cell 3
      go_wp2_with fail
      refine (refOf_any false A' B' c' d' m f0 _ R3.out R4.out HP.out.1 HP.out.2.1).mono ?_
      rintro e w6 ⟨rfl, hbl⟩
      replace R1 := Lib.hid (R1.out.below hbl)
      replace R2 := Lib.hid (R2.out.below hbl)
      replace R3 := Lib.hid (R3.out.below hbl)
      replace R4 := Lib.hid (R4.out.below hbl)
      replace Rx := Lib.hid (Rx.out.below hbl)
      replace HNx := Lib.hid (HNx.out.below hbl)
      replace Ry := Lib.hid (Ry.out.below hbl)
      replace HNy := Lib.hid (HNy.out.below hbl)
      replace CX := Lib.hid (CX.out.below hbl CX.out.lt)
      replace CY := Lib.hid (CY.out.below hbl CY.out.lt)
      replace VX := Lib.hid (VX.out.below hbl VX.out.lt)
      replace VF := Lib.hid (VF.out.below hbl VF.out.lt)
      replace HW := Lib.hid (bel_trans HW.out hbl); clear hbl
      clear CX0 CX1 CX2 CY0 CY1 CY2 VX0 VX1 VX2 VF0 VF1 VF2 VF3
      have CX0 : w6.cell? ⟨w.heap.size, 0, none⟩ = some (.bool false) := CX.out.cell 0
      have CX1 : w6.cell? ⟨w.heap.size, 1, none⟩ = some (.slice A (limbs n).length c) := CX.out.cell 1
      have CX2 : w6.cell? ⟨w.heap.size, 2, none⟩ = some (.slice B (limbs d0).length d) := CX.out.cell 2
      have CY0 : w6.cell? ⟨w.heap.size + 1, 0, none⟩ = some (.bool false) := CY.out.cell 0
      have CY1 : w6.cell? ⟨w.heap.size + 1, 1, none⟩ = some (.slice A' (limbs m).length c') := CY.out.cell 1
      have CY2 : w6.cell? ⟨w.heap.size + 1, 2, none⟩ = some (.slice B' (limbs f0).length d') := CY.out.cell 2
      have VX0 : w6.cell? ⟨w2.heap.size, 0, none⟩ = some (.bool t.s) := VX.out.cell 0
      have VX1 : w6.cell? ⟨w2.heap.size, 1, none⟩ = some (.slice Ax (limbs t.n).length cx) := VX.out.cell 1
      have VX2 : w6.cell? ⟨w2.heap.size, 2, none⟩ = some (.slice Ay (limbs t.d).length cy) := VX.out.cell 2
      have VF0 : w6.cell? ⟨w4.heap.size, 0, none⟩ = some (.bool false) := VF.out.cell 0
      have VF1 : w6.cell? ⟨w4.heap.size, 1, none⟩ = some (.string (dec n)) := VF.out.cell 1
      have VF2 : w6.cell? ⟨w4.heap.size, 2, none⟩ = some (.string (dec d0)) := VF.out.cell 2
      have VF3 : w6.cell? ⟨w4.heap.size, 3, none⟩ = some (.bool false) := VF.out.cell 3
      go_upto_region 12 with fail
      obtain ⟨wo, hwo⟩ : ∃ wo, wo = w6.alloc (.cells #[.bool false, .string (dec m), .string (dec f0), .bool false] 49) := ⟨_, rfl⟩
      rw [← hwo]
      have hbl : Below w6.heap.size w6 wo := by rw [hwo]; exact bel_alloc (bel_refl _) _
      have VG : Blk wo (w6.heap.size) 49 #[.bool false, .string (dec m), .string (dec f0), .bool false] := by
        have hz := Blk.new (w6) 49 #[.bool false, .string (dec m), .string (dec f0), .bool false]
        rw [hwo]
        exact hz
      clear hwo
      replace R1 := Lib.hid (R1.out.below hbl)
      replace R2 := Lib.hid (R2.out.below hbl)
      replace R3 := Lib.hid (R3.out.below hbl)
      replace R4 := Lib.hid (R4.out.below hbl)
      replace Rx := Lib.hid (Rx.out.below hbl)
      replace HNx := Lib.hid (HNx.out.below hbl)
      replace Ry := Lib.hid (Ry.out.below hbl)
      replace HNy := Lib.hid (HNy.out.below hbl)
      replace CX := Lib.hid (CX.out.below hbl CX.out.lt)
      replace CY := Lib.hid (CY.out.below hbl CY.out.lt)
      replace VX := Lib.hid (VX.out.below hbl VX.out.lt)
      replace VF := Lib.hid (VF.out.below hbl VF.out.lt)
      replace HW := Lib.hid (bel_trans HW.out hbl); clear hbl
      replace VG := Lib.hid VG
      clear CX0 CX1 CX2 CY0 CY1 CY2 VX0 VX1 VX2 VF0 VF1 VF2 VF3
      have CX0 : wo.cell? ⟨w.heap.size, 0, none⟩ = some (.bool false) := CX.out.cell 0
      have CX1 : wo.cell? ⟨w.heap.size, 1, none⟩ = some (.slice A (limbs n).length c) := CX.out.cell 1
      have CX2 : wo.cell? ⟨w.heap.size, 2, none⟩ = some (.slice B (limbs d0).length d) := CX.out.cell 2
      have CY0 : wo.cell? ⟨w.heap.size + 1, 0, none⟩ = some (.bool false) := CY.out.cell 0
      have CY1 : wo.cell? ⟨w.heap.size + 1, 1, none⟩ = some (.slice A' (limbs m).length c') := CY.out.cell 1
      have CY2 : wo.cell? ⟨w.heap.size + 1, 2, none⟩ = some (.slice B' (limbs f0).length d') := CY.out.cell 2
      have VX0 : wo.cell? ⟨w2.heap.size, 0, none⟩ = some (.bool t.s) := VX.out.cell 0
      have VX1 : wo.cell? ⟨w2.heap.size, 1, none⟩ = some (.slice Ax (limbs t.n).length cx) := VX.out.cell 1
      have VX2 : wo.cell? ⟨w2.heap.size, 2, none⟩ = some (.slice Ay (limbs t.d).length cy) := VX.out.cell 2
      have VF0 : wo.cell? ⟨w4.heap.size, 0, none⟩ = some (.bool false) := VF.out.cell 0
      have VF1 : wo.cell? ⟨w4.heap.size, 1, none⟩ = some (.string (dec n)) := VF.out.cell 1
      have VF2 : wo.cell? ⟨w4.heap.size, 2, none⟩ = some (.string (dec d0)) := VF.out.cell 2
      have VF3 : wo.cell? ⟨w4.heap.size, 3, none⟩ = some (.bool false) := VF.out.cell 3
      have VG0 : wo.cell? ⟨w6.heap.size, 0, none⟩ = some (.bool false) := VG.out.cell 0
      have VG1 : wo.cell? ⟨w6.heap.size, 1, none⟩ = some (.string (dec m)) := VG.out.cell 1
      have VG2 : wo.cell? ⟨w6.heap.size, 2, none⟩ = some (.string (dec f0)) := VG.out.cell 2
      have VG3 : wo.cell? ⟨w6.heap.size, 3, none⟩ = some (.bool false) := VG.out.cell 3
      refine wp_region_typed 12 (TOf [VIs (.pointer (some ⟨w4.heap.size, 1, none⟩)),
          VIs (.string (dec n)),
          VIs (.pointer (some ⟨w6.heap.size, 2, none⟩)),
          VIs (.string (dec f0)),
          VIs (.string (dec x)),
          VIs (.pointer (some ⟨w6.heap.size, 1, none⟩)),
          VIs (.string (dec m)),
          VIs (.pointer (some ⟨w4.heap.size, 2, none⟩)),
          VIs (.string (dec d0)),
          VIs (.string (dec y)),
          VIs (.string (dec x)),
          VIs (.string (dec y))]) (by kernel_rfl) (by kernel_rfl) (by kernel_rfl) (LiftAll.at_ (.cons (VIs.lift _) (.cons (VIs.lift _) (.cons (VIs.lift _) (.cons (VIs.lift _) (.cons (VIs.lift _) (.cons (VIs.lift _) (.cons (VIs.lift _) (.cons (VIs.lift _) (.cons (VIs.lift _) (.cons (VIs.lift _) (.cons (VIs.lift _) (.cons (VIs.lift _) .nil))))))))))))) (steps_all (steps_cons ?_ (steps_cons ?_ (steps_cons ?_ (steps_cons ?_ (steps_cons ?_ (steps_cons ?_ (steps_cons ?_ (steps_cons ?_ (steps_cons ?_ (steps_cons ?_ (steps_cons ?_ (steps_cons ?_ steps_zero))))))))))))) ?fin
      · intro a0 w9 K9 hF hB hK hC
        have b9 := hF.base (k := 9) (v := .pointer (some ⟨w4.heap.size, 0, none⟩)) (by kernel_rfl) rfl
        clear hF hB hK
        go_simp
        exact hC _ _ (bel_refl _) fun _ _ => rfl
      · intro a0 w9 K9 hF hB hK hC
        obtain ⟨v84, e84, z84⟩ := dep hK 0 (g := .data) (j := 0) (k := 84) rfl rfl rfl
        have z84 : v84 = .pointer (some ⟨w4.heap.size, 1, none⟩) := z84
        subst z84
        have x9 : w9.cell? ⟨w4.heap.size, 1, none⟩ = some (.string (dec n)) := (VF.out.below hB VF.out.lt).cell 1
        clear hF hB hK
        go_simp
        exact hC _ _ (bel_refl _) fun _ _ => rfl
      · intro a0 w9 K9 hF hB hK hC
        have b10 := hF.base (k := 10) (v := .pointer (some ⟨w6.heap.size, 0, none⟩)) (by kernel_rfl) rfl
        clear hF hB hK
        go_simp
        exact hC _ _ (bel_refl _) fun _ _ => rfl
      · intro a0 w9 K9 hF hB hK hC
        obtain ⟨v86, e86, z86⟩ := dep hK 0 (g := .data) (j := 2) (k := 86) rfl rfl rfl
        have z86 : v86 = .pointer (some ⟨w6.heap.size, 2, none⟩) := z86
        subst z86
        have x9 : w9.cell? ⟨w6.heap.size, 2, none⟩ = some (.string (dec f0)) := (VG.out.below hB VG.out.lt).cell 2
        clear hF hB hK
        go_simp
        exact hC _ _ (bel_refl _) fun _ _ => rfl
      · intro a0 w9 K9 hF hB hK hC
        obtain ⟨v85, e85, z85⟩ := dep hK 0 (g := .data) (j := 1) (k := 85) rfl rfl rfl
        have z85 : v85 = .string (dec n) := z85
        subst z85
        obtain ⟨v87, e87, z87⟩ := dep hK 1 (g := .data) (j := 3) (k := 87) rfl rfl rfl
        have z87 : v87 = .string (dec f0) := z87
        subst z87
        have HB9 := Lib.hid hB
        clear hF hB hK
        go_simp
        refine (refMul_any n f0 _ (by have := decL_top HQ.out.1; omega) (by have := decL_top HP.out.2.1; omega)).mono ?_
        rintro e w7 ⟨rfl, hbl⟩
        rw [HXY.out.1]
        exact hC _ _ hbl fun _ _ => rfl
      · intro a0 w9 K9 hF hB hK hC
        have b10 := hF.base (k := 10) (v := .pointer (some ⟨w6.heap.size, 0, none⟩)) (by kernel_rfl) rfl
        clear hF hB hK
        go_simp
        exact hC _ _ (bel_refl _) fun _ _ => rfl
      · intro a0 w9 K9 hF hB hK hC
        obtain ⟨v89, e89, z89⟩ := dep hK 0 (g := .data) (j := 5) (k := 89) rfl rfl rfl
        have z89 : v89 = .pointer (some ⟨w6.heap.size, 1, none⟩) := z89
        subst z89
        have x9 : w9.cell? ⟨w6.heap.size, 1, none⟩ = some (.string (dec m)) := (VG.out.below hB VG.out.lt).cell 1
        clear hF hB hK
        go_simp
        exact hC _ _ (bel_refl _) fun _ _ => rfl
      · intro a0 w9 K9 hF hB hK hC
        have b9 := hF.base (k := 9) (v := .pointer (some ⟨w4.heap.size, 0, none⟩)) (by kernel_rfl) rfl
        clear hF hB hK
        go_simp
        exact hC _ _ (bel_refl _) fun _ _ => rfl
      · intro a0 w9 K9 hF hB hK hC
        obtain ⟨v91, e91, z91⟩ := dep hK 0 (g := .data) (j := 7) (k := 91) rfl rfl rfl
        have z91 : v91 = .pointer (some ⟨w4.heap.size, 2, none⟩) := z91
        subst z91
        have x9 : w9.cell? ⟨w4.heap.size, 2, none⟩ = some (.string (dec d0)) := (VF.out.below hB VF.out.lt).cell 2
        clear hF hB hK
        go_simp
        exact hC _ _ (bel_refl _) fun _ _ => rfl
      · intro a0 w9 K9 hF hB hK hC
        obtain ⟨v90, e90, z90⟩ := dep hK 0 (g := .data) (j := 6) (k := 90) rfl rfl rfl
        have z90 : v90 = .string (dec m) := z90
        subst z90
        obtain ⟨v92, e92, z92⟩ := dep hK 1 (g := .data) (j := 8) (k := 92) rfl rfl rfl
        have z92 : v92 = .string (dec d0) := z92
        subst z92
        have HB9 := Lib.hid hB
        clear hF hB hK
        go_simp
        refine (refMul_any m d0 _ (by have := decL_top HP.out.1; omega) (by have := decL_top HQ.out.2.1; omega)).mono ?_
        rintro e w7 ⟨rfl, hbl⟩
        rw [HXY.out.2]
        exact hC _ _ hbl fun _ _ => rfl
      · intro a0 w9 K9 hF hB hK hC
        obtain ⟨v88, e88, z88⟩ := dep hK 0 (g := .data) (j := 4) (k := 88) rfl rfl rfl
        have z88 : v88 = .string (dec x) := z88
        subst z88
        clear hF hB hK
        go_simp
        exact hC _ _ (bel_refl _) fun _ _ => rfl
      · intro a0 w9 K9 hF hB hK hC
        obtain ⟨v93, e93, z93⟩ := dep hK 0 (g := .data) (j := 9) (k := 93) rfl rfl rfl
        have z93 : v93 = .string (dec y) := z93
        subst z93
        clear hF hB hK
        go_simp
        exact hC _ _ (bel_refl _) fun _ _ => rfl
      case fin =>
        intro a0 w9 hF hB hK
        have b5 := hF.base (k := 5) (v := .int .i64 (cmpI (x : Int) (y : Int))) (by kernel_rfl) rfl
        have b6 := hF.base (k := 6) (v := .int .i64 0) (by kernel_rfl) rfl
        have b9 := hF.base (k := 9) (v := .pointer (some ⟨w4.heap.size, 0, none⟩)) (by kernel_rfl) rfl
        have b10 := hF.base (k := 10) (v := .pointer (some ⟨w6.heap.size, 0, none⟩)) (by kernel_rfl) rfl
        have hsz := hF.size
        have hdf := hF.defers
        clear hF
        obtain ⟨v11, e11, z11⟩ := known hK 10 (k := 11) (by decide) rfl
        have z11 : v11 = .string (dec x) := z11
        subst z11
        obtain ⟨v12, e12, z12⟩ := known hK 11 (k := 12) (by decide) rfl
        have z12 : v12 = .string (dec y) := z12
        subst z12
        clear hK
        obtain ⟨⟨l0⟩, df⟩ := a0
        have hs0 : l0.length = 131 := hsz
        clear hsz
        replace hdf : df = _ := hdf
        subst hdf
        obtain ⟨u, rfl⟩ := lits_131 hs0
        clear hs0
        have q5 : u 5 = _ := Option.some.inj b5
        clear b5
        have q6 : u 6 = _ := Option.some.inj b6
        clear b6
        have q9 : u 9 = _ := Option.some.inj b9
        clear b9
        have q10 : u 10 = _ := Option.some.inj b10
        clear b10
        have q11 : u 11 = _ := Option.some.inj e11
        clear e11
        have q12 : u 12 = _ := Option.some.inj e12
        clear e12
        rw [q5, q6, q9, q10, q11, q12]
        clear q5 q6 q9 q10 q11 q12
        have hbl := hB; clear hB
        replace R1 := Lib.hid (R1.out.below hbl)
        replace R2 := Lib.hid (R2.out.below hbl)
        replace R3 := Lib.hid (R3.out.below hbl)
        replace R4 := Lib.hid (R4.out.below hbl)
        replace Rx := Lib.hid (Rx.out.below hbl)
        replace HNx := Lib.hid (HNx.out.below hbl)
        replace Ry := Lib.hid (Ry.out.below hbl)
        replace HNy := Lib.hid (HNy.out.below hbl)
        replace CX := Lib.hid (CX.out.below hbl CX.out.lt)
        replace CY := Lib.hid (CY.out.below hbl CY.out.lt)
        replace VX := Lib.hid (VX.out.below hbl VX.out.lt)
        replace VF := Lib.hid (VF.out.below hbl VF.out.lt)
        replace VG := Lib.hid (VG.out.below hbl VG.out.lt)
        replace HW := Lib.hid (bel_trans HW.out hbl); clear hbl
        clear CX0 CX1 CX2 CY0 CY1 CY2 VX0 VX1 VX2 VF0 VF1 VF2 VF3 VG0 VG1 VG2 VG3
        have CX0 : w9.cell? ⟨w.heap.size, 0, none⟩ = some (.bool false) := CX.out.cell 0
        have CX1 : w9.cell? ⟨w.heap.size, 1, none⟩ = some (.slice A (limbs n).length c) := CX.out.cell 1
        have CX2 : w9.cell? ⟨w.heap.size, 2, none⟩ = some (.slice B (limbs d0).length d) := CX.out.cell 2
        have CY0 : w9.cell? ⟨w.heap.size + 1, 0, none⟩ = some (.bool false) := CY.out.cell 0
        have CY1 : w9.cell? ⟨w.heap.size + 1, 1, none⟩ = some (.slice A' (limbs m).length c') := CY.out.cell 1
        have CY2 : w9.cell? ⟨w.heap.size + 1, 2, none⟩ = some (.slice B' (limbs f0).length d') := CY.out.cell 2
        have VX0 : w9.cell? ⟨w2.heap.size, 0, none⟩ = some (.bool t.s) := VX.out.cell 0
        have VX1 : w9.cell? ⟨w2.heap.size, 1, none⟩ = some (.slice Ax (limbs t.n).length cx) := VX.out.cell 1
        have VX2 : w9.cell? ⟨w2.heap.size, 2, none⟩ = some (.slice Ay (limbs t.d).length cy) := VX.out.cell 2
        have VF0 : w9.cell? ⟨w4.heap.size, 0, none⟩ = some (.bool false) := VF.out.cell 0
        have VF1 : w9.cell? ⟨w4.heap.size, 1, none⟩ = some (.string (dec n)) := VF.out.cell 1
        have VF2 : w9.cell? ⟨w4.heap.size, 2, none⟩ = some (.string (dec d0)) := VF.out.cell 2
        have VF3 : w9.cell? ⟨w4.heap.size, 3, none⟩ = some (.bool false) := VF.out.cell 3
        have VG0 : w9.cell? ⟨w6.heap.size, 0, none⟩ = some (.bool false) := VG.out.cell 0
        have VG1 : w9.cell? ⟨w6.heap.size, 1, none⟩ = some (.string (dec m)) := VG.out.cell 1
        have VG2 : w9.cell? ⟨w6.heap.size, 2, none⟩ = some (.string (dec f0)) := VG.out.cell 2
        have VG3 : w9.cell? ⟨w6.heap.size, 3, none⟩ = some (.bool false) := VG.out.cell 3
        refine wpList_nil ?_
        go_wp2_with fail
        refine (refOver_any x _).mono ?_
        rintro e w7 ⟨rfl, hbl⟩
        replace R1 := Lib.hid (R1.out.below hbl)
        replace R2 := Lib.hid (R2.out.below hbl)
        replace R3 := Lib.hid (R3.out.below hbl)
        replace R4 := Lib.hid (R4.out.below hbl)
        replace Rx := Lib.hid (Rx.out.below hbl)
        replace HNx := Lib.hid (HNx.out.below hbl)
        replace Ry := Lib.hid (Ry.out.below hbl)
        replace HNy := Lib.hid (HNy.out.below hbl)
        replace CX := Lib.hid (CX.out.below hbl CX.out.lt)
        replace CY := Lib.hid (CY.out.below hbl CY.out.lt)
        replace VX := Lib.hid (VX.out.below hbl VX.out.lt)
        replace VF := Lib.hid (VF.out.below hbl VF.out.lt)
        replace VG := Lib.hid (VG.out.below hbl VG.out.lt)
        replace HW := Lib.hid (bel_trans HW.out hbl); clear hbl
        clear CX0 CX1 CX2 CY0 CY1 CY2 VX0 VX1 VX2 VF0 VF1 VF2 VF3 VG0 VG1 VG2 VG3
        have CX0 : w7.cell? ⟨w.heap.size, 0, none⟩ = some (.bool false) := CX.out.cell 0
        have CX1 : w7.cell? ⟨w.heap.size, 1, none⟩ = some (.slice A (limbs n).length c) := CX.out.cell 1
        have CX2 : w7.cell? ⟨w.heap.size, 2, none⟩ = some (.slice B (limbs d0).length d) := CX.out.cell 2
        have CY0 : w7.cell? ⟨w.heap.size + 1, 0, none⟩ = some (.bool false) := CY.out.cell 0
        have CY1 : w7.cell? ⟨w.heap.size + 1, 1, none⟩ = some (.slice A' (limbs m).length c') := CY.out.cell 1
        have CY2 : w7.cell? ⟨w.heap.size + 1, 2, none⟩ = some (.slice B' (limbs f0).length d') := CY.out.cell 2
        have VX0 : w7.cell? ⟨w2.heap.size, 0, none⟩ = some (.bool t.s) := VX.out.cell 0
        have VX1 : w7.cell? ⟨w2.heap.size, 1, none⟩ = some (.slice Ax (limbs t.n).length cx) := VX.out.cell 1
        have VX2 : w7.cell? ⟨w2.heap.size, 2, none⟩ = some (.slice Ay (limbs t.d).length cy) := VX.out.cell 2
        have VF0 : w7.cell? ⟨w4.heap.size, 0, none⟩ = some (.bool false) := VF.out.cell 0
        have VF1 : w7.cell? ⟨w4.heap.size, 1, none⟩ = some (.string (dec n)) := VF.out.cell 1
        have VF2 : w7.cell? ⟨w4.heap.size, 2, none⟩ = some (.string (dec d0)) := VF.out.cell 2
        have VF3 : w7.cell? ⟨w4.heap.size, 3, none⟩ = some (.bool false) := VF.out.cell 3
        have VG0 : w7.cell? ⟨w6.heap.size, 0, none⟩ = some (.bool false) := VG.out.cell 0
        have VG1 : w7.cell? ⟨w6.heap.size, 1, none⟩ = some (.string (dec m)) := VG.out.cell 1
        have VG2 : w7.cell? ⟨w6.heap.size, 2, none⟩ = some (.string (dec f0)) := VG.out.cell 2
        have VG3 : w7.cell? ⟨w6.heap.size, 3, none⟩ = some (.bool false) := VG.out.cell 3
        rw [HO.out]
        go_wp2_with fail
        refine (refOver_any y _).mono ?_
        rintro e w8 ⟨rfl, hbl⟩
        replace R1 := Lib.hid (R1.out.below hbl)
        replace R2 := Lib.hid (R2.out.below hbl)
        replace R3 := Lib.hid (R3.out.below hbl)
        replace R4 := Lib.hid (R4.out.below hbl)
        replace Rx := Lib.hid (Rx.out.below hbl)
        replace HNx := Lib.hid (HNx.out.below hbl)
        replace Ry := Lib.hid (Ry.out.below hbl)
        replace HNy := Lib.hid (HNy.out.below hbl)
        replace CX := Lib.hid (CX.out.below hbl CX.out.lt)
        replace CY := Lib.hid (CY.out.below hbl CY.out.lt)
        replace VX := Lib.hid (VX.out.below hbl VX.out.lt)
        replace VF := Lib.hid (VF.out.below hbl VF.out.lt)
        replace VG := Lib.hid (VG.out.below hbl VG.out.lt)
        replace HW := Lib.hid (bel_trans HW.out hbl); clear hbl
        clear CX0 CX1 CX2 CY0 CY1 CY2 VX0 VX1 VX2 VF0 VF1 VF2 VF3 VG0 VG1 VG2 VG3
        have CX0 : w8.cell? ⟨w.heap.size, 0, none⟩ = some (.bool false) := CX.out.cell 0
        have CX1 : w8.cell? ⟨w.heap.size, 1, none⟩ = some (.slice A (limbs n).length c) := CX.out.cell 1
        have CX2 : w8.cell? ⟨w.heap.size, 2, none⟩ = some (.slice B (limbs d0).length d) := CX.out.cell 2
        have CY0 : w8.cell? ⟨w.heap.size + 1, 0, none⟩ = some (.bool false) := CY.out.cell 0
        have CY1 : w8.cell? ⟨w.heap.size + 1, 1, none⟩ = some (.slice A' (limbs m).length c') := CY.out.cell 1
        have CY2 : w8.cell? ⟨w.heap.size + 1, 2, none⟩ = some (.slice B' (limbs f0).length d') := CY.out.cell 2
        have VX0 : w8.cell? ⟨w2.heap.size, 0, none⟩ = some (.bool t.s) := VX.out.cell 0
        have VX1 : w8.cell? ⟨w2.heap.size, 1, none⟩ = some (.slice Ax (limbs t.n).length cx) := VX.out.cell 1
        have VX2 : w8.cell? ⟨w2.heap.size, 2, none⟩ = some (.slice Ay (limbs t.d).length cy) := VX.out.cell 2
        have VF0 : w8.cell? ⟨w4.heap.size, 0, none⟩ = some (.bool false) := VF.out.cell 0
        have VF1 : w8.cell? ⟨w4.heap.size, 1, none⟩ = some (.string (dec n)) := VF.out.cell 1
        have VF2 : w8.cell? ⟨w4.heap.size, 2, none⟩ = some (.string (dec d0)) := VF.out.cell 2
        have VF3 : w8.cell? ⟨w4.heap.size, 3, none⟩ = some (.bool false) := VF.out.cell 3
        have VG0 : w8.cell? ⟨w6.heap.size, 0, none⟩ = some (.bool false) := VG.out.cell 0
        have VG1 : w8.cell? ⟨w6.heap.size, 1, none⟩ = some (.string (dec m)) := VG.out.cell 1
        have VG2 : w8.cell? ⟨w6.heap.size, 2, none⟩ = some (.string (dec f0)) := VG.out.cell 2
        have VG3 : w8.cell? ⟨w6.heap.size, 3, none⟩ = some (.bool false) := VG.out.cell 3
        rw [HO2.out]
        go_wp2_with fail
        refine (refCmp_bb x y _).mono ?_
        rintro e w9 ⟨rfl, hbl⟩
        replace R1 := Lib.hid (R1.out.below hbl)
        replace R2 := Lib.hid (R2.out.below hbl)
        replace R3 := Lib.hid (R3.out.below hbl)
        replace R4 := Lib.hid (R4.out.below hbl)
        replace Rx := Lib.hid (Rx.out.below hbl)
        replace HNx := Lib.hid (HNx.out.below hbl)
        replace Ry := Lib.hid (Ry.out.below hbl)
        replace HNy := Lib.hid (HNy.out.below hbl)
        replace CX := Lib.hid (CX.out.below hbl CX.out.lt)
        replace CY := Lib.hid (CY.out.below hbl CY.out.lt)
        replace VX := Lib.hid (VX.out.below hbl VX.out.lt)
        replace VF := Lib.hid (VF.out.below hbl VF.out.lt)
        replace VG := Lib.hid (VG.out.below hbl VG.out.lt)
        replace HW := Lib.hid (bel_trans HW.out hbl); clear hbl
        clear CX0 CX1 CX2 CY0 CY1 CY2 VX0 VX1 VX2 VF0 VF1 VF2 VF3 VG0 VG1 VG2 VG3
        have CX0 : w9.cell? ⟨w.heap.size, 0, none⟩ = some (.bool false) := CX.out.cell 0
        have CX1 : w9.cell? ⟨w.heap.size, 1, none⟩ = some (.slice A (limbs n).length c) := CX.out.cell 1
        have CX2 : w9.cell? ⟨w.heap.size, 2, none⟩ = some (.slice B (limbs d0).length d) := CX.out.cell 2
        have CY0 : w9.cell? ⟨w.heap.size + 1, 0, none⟩ = some (.bool false) := CY.out.cell 0
        have CY1 : w9.cell? ⟨w.heap.size + 1, 1, none⟩ = some (.slice A' (limbs m).length c') := CY.out.cell 1
        have CY2 : w9.cell? ⟨w.heap.size + 1, 2, none⟩ = some (.slice B' (limbs f0).length d') := CY.out.cell 2
        have VX0 : w9.cell? ⟨w2.heap.size, 0, none⟩ = some (.bool t.s) := VX.out.cell 0
        have VX1 : w9.cell? ⟨w2.heap.size, 1, none⟩ = some (.slice Ax (limbs t.n).length cx) := VX.out.cell 1
        have VX2 : w9.cell? ⟨w2.heap.size, 2, none⟩ = some (.slice Ay (limbs t.d).length cy) := VX.out.cell 2
        have VF0 : w9.cell? ⟨w4.heap.size, 0, none⟩ = some (.bool false) := VF.out.cell 0
        have VF1 : w9.cell? ⟨w4.heap.size, 1, none⟩ = some (.string (dec n)) := VF.out.cell 1
        have VF2 : w9.cell? ⟨w4.heap.size, 2, none⟩ = some (.string (dec d0)) := VF.out.cell 2
        have VF3 : w9.cell? ⟨w4.heap.size, 3, none⟩ = some (.bool false) := VF.out.cell 3
        have VG0 : w9.cell? ⟨w6.heap.size, 0, none⟩ = some (.bool false) := VG.out.cell 0
        have VG1 : w9.cell? ⟨w6.heap.size, 1, none⟩ = some (.string (dec m)) := VG.out.cell 1
        have VG2 : w9.cell? ⟨w6.heap.size, 2, none⟩ = some (.string (dec f0)) := VG.out.cell 2
        have VG3 : w9.cell? ⟨w6.heap.size, 3, none⟩ = some (.bool false) := VG.out.cell 3
        go_wp2
        go_ret
        exact ⟨rfl, HW.out⟩
end
section
open Go.RowKit

theorem law_orders (s s' : Bool) (A B A' B' : Option Addr) (c d c' d' : Nat) (x0 y0 x0' y0' : List Nat) (w : World) (h1 : RdL w A x0) (h2 : RdL w B y0) (h3 : RdL w A' x0') (h4 : RdL w B' y0') (k1 : x0.length ≤ c) (k2 : y0.length ≤ d) (k3 : x0'.length ≤ c') (k4 : y0'.length ≤ d') (m1 : Lim x0) (m2 : Lim y0) (m3 : Lim x0') (m4 : Lim y0') :
    Calls Try.prog 6 #[.agg #[.bool s, .slice A x0.length c, .slice B y0.length d], .agg #[.bool s', .slice A' x0'.length c', .slice B' y0'.length d']] w (RetT w) := by
  cases hr : rightB s (few x0) (few y0)
  · exact orders_wa s s' A B A' B' c d c' d' x0 y0 x0' y0' (few x0) (few y0) (few x0') (few y0') w h1 h2 h3 h4 k1 k2 k3 k4 m1 m2 m3 m4 hr rfl rfl rfl rfl
  · obtain ⟨q, hs, hx, hy, hn, hd, hq⟩ := rightB_num (few_lim m1) (few_lim m2) hr
    obtain ⟨s0, n, d0⟩ := q
    obtain rfl : s0 = s := hs
    cases hrb : rightB s' (few x0') (few y0')
    · exact orders_wb s0 s' A B A' B' c d c' d' x0 y0 x0' y0' n d0 (few x0') (few y0') w h1 h2 h3 h4 k1 k2 k3 k4 m1 m2 m3 m4 hn hd hq hrb hx hy rfl rfl
    · obtain ⟨p, hs', hx', hy', hm, hf, hp⟩ := rightB_num (few_lim m3) (few_lim m4) hrb
      obtain ⟨s1, m, f0⟩ := p
      obtain rfl : s1 = s' := hs'
      by_cases ho : n * f0 < Top
      · by_cases ho2 : m * d0 < Top
        · rcases (show s0 = true ∨ s0 = false by cases s0 <;> simp) with e1 | e1 <;> rcases (show s1 = true ∨ s1 = false by cases s1 <;> simp) with e2 | e2
          · exact orders_tt s0 s1 A B A' B' c d c' d' x0 y0 x0' y0' n d0 m f0 w h1 h2 h3 h4 k1 k2 k3 k4 m1 m2 m3 m4 e1 e2 hn hd hq hm hf hp ho ho2 hx hy hx' hy'
          · exact orders_tf s0 s1 A B A' B' c d c' d' x0 y0 x0' y0' n d0 m f0 w h1 h2 h3 h4 k1 k2 k3 k4 m1 m2 m3 m4 e1 e2 hn hd hq hm hf hp ho ho2 hx hy hx' hy'
          · exact orders_ft s0 s1 A B A' B' c d c' d' x0 y0 x0' y0' n d0 m f0 w h1 h2 h3 h4 k1 k2 k3 k4 m1 m2 m3 m4 e1 e2 hn hd hq hm hf hp ho ho2 hx hy hx' hy'
          · exact orders_ff s0 s1 A B A' B' c d c' d' x0 y0 x0' y0' n d0 m f0 w h1 h2 h3 h4 k1 k2 k3 k4 m1 m2 m3 m4 e1 e2 hn hd hq hm hf hp ho ho2 hx hy hx' hy'
        · exact orders_oy s0 s1 A B A' B' c d c' d' x0 y0 x0' y0' n d0 m f0 w h1 h2 h3 h4 k1 k2 k3 k4 m1 m2 m3 m4 hn hd hq hm hf hp ho ho2 hx hy hx' hy'
      · exact orders_ox s0 s1 A B A' B' c d c' d' x0 y0 x0' y0' n d0 m f0 w h1 h2 h3 h4 k1 k2 k3 k4 m1 m2 m3 m4 hn hd hq hm hf hp ho hx hy hx' hy'
end
end Go.Proofs.Ytmbbdjpnecjleaa
