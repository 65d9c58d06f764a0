/-
  What the law RatReckons asks of numbers.
  The law RatReckons, walked.
-/
import Derived.Test.YtmbbdjpnecjleaaLawBack0
import Derived.Test.YtmbbdjpnecjleaaFOps
import Derived.Test.YtmbbdjpnecjleaaQApart
namespace Go.Proofs.Ytmbbdjpnecjleaa
section
open Go.RowKit

theorem isQ_ans {q f : Q} {e : Int} {k : Bool} (hA : Ans q f e k) (A B : Option Addr) (c d : Nat) (w : World) (h : RdL w A (limbs q.n)) (h' : RdL w B (limbs q.d)) :
    Calls Try.prog 30 #[.agg #[.bool q.s, .slice A (limbs q.n).length c, .slice B (limbs q.d).length d], .int .i64 e, .agg #[.bool f.s, .string (dec f.n), .string (dec f.d), .bool k]] w (RetBB true w) := by
  cases k
  · obtain ⟨rfl, rfl, h1, h2, h3⟩ := hA.fine rfl
    exact isQ_ok q A B c d w h h' h1 h2 h3
  · obtain ⟨rfl, rfl⟩ := hA.over rfl
    exact isQ_bad f A B c d w
theorem RdL.set4 {w : World} {g : Nat} {t : TypeId} {b b' : Bool} {p p' : ByteArray} {E : Option Addr} {xs : List Nat} (hB : Blk w g t #[.bool b, .string p, .string p', .bool b']) (h : RdL w E xs) (x y z u : Value) :
    RdL ((((w.setCell ⟨g, 0, none⟩ x).setCell ⟨g, 1, none⟩ y).setCell ⟨g, 2, none⟩ z).setCell ⟨g, 3, none⟩ u) E xs := by
  intro hx
  obtain ⟨c, off, e, hc, hcell⟩ := h hx
  have hcg : c ≠ g := by
    rintro rfl
    have h0 := hcell 0 hx
    rw [hB.cell] at h0
    have : off + 0 = 0 ∨ off + 0 = 1 ∨ off + 0 = 2 ∨ off + 0 = 3 ∨ 4 ≤ off + 0 := by omega
    rcases this with e | e | e | e | e
    · rw [e] at h0; simp at h0
    · rw [e] at h0; simp at h0
    · rw [e] at h0; simp at h0
    · rw [e] at h0; simp at h0
    · rw [Array.getElem?_eq_none (by simpa using e)] at h0; simp at h0
  refine ⟨c, off, e, by simpa using hc, fun k hk => ?_⟩
  rw [cell_far hcg, cell_far hcg, cell_far hcg, cell_far hcg]
  exact hcell k hk
theorem RdN.set4 {w : World} {g : Nat} {t : TypeId} {b b' : Bool} {p p' : ByteArray} {v : Value} {n : Nat} (hB : Blk w g t #[.bool b, .string p, .string p', .bool b']) (h : RdN w v n) (x y z u : Value) :
    RdN ((((w.setCell ⟨g, 0, none⟩ x).setCell ⟨g, 1, none⟩ y).setCell ⟨g, 2, none⟩ z).setCell ⟨g, 3, none⟩ u) v n := by
  obtain ⟨E, cap, rfl, hcap, hr⟩ := h
  exact ⟨E, cap, rfl, hcap, RdL.set4 hB hr x y z u⟩
theorem apart_new {w : World} {B : Nat} {t : TypeId} {cs : Array Value} {u : Value} (h : VNewF B t cs w u) : Value.pointer (some ⟨w.heap.size, 0, none⟩) ≠ u := by
  obtain ⟨g, rfl, _, hb⟩ := h
  intro e
  injection e with e
  injection e with e
  injection e with e
  have := hb.lt
  omega
end
section
open Go.RowKit

set_option maxRecDepth 100000 in
set_option maxHeartbeats 1000000 in
theorem reckons_wa (s s' : Bool) (A B A' B' : Option Addr) (c d c' d' : Nat) (x0 y0 x0' y0' : List Nat) (xs ys xs' ys' : List Nat) (w : World) (h1 : RdL w A x0) (h2 : RdL w B y0) (h3 : RdL w A' x0') (h4 : RdL w B' y0') (k1 : x0.length ≤ c) (k2 : y0.length ≤ d) (k3 : x0'.length ≤ c') (k4 : y0'.length ≤ d') (m1 : Lim x0) (m2 : Lim y0) (m3 : Lim x0') (m4 : Lim y0') (hr : rightB s xs ys = false) (e1 : few x0 = xs) (e2 : few y0 = ys) (e3 : few x0' = xs') (e4 : few y0' = ys') :
    Calls Try.prog 5 #[.agg #[.bool s, .slice A x0.length c, .slice B y0.length d], .agg #[.bool s', .slice A' x0'.length c', .slice B' y0'.length d']] w (RetT w) := by
  have HR := Lib.hid hr
  have HRR := Lib.hid (show (rightB s xs ys && rightB s' xs' ys') = false by rw [hr]; rfl); clear hr
  have R1 := Lib.hid (show RdL w A xs by rw [← e1]; exact h1.take 18); clear h1
  have R2 := Lib.hid (show RdL w B ys by rw [← e2]; exact h2.take 18); clear h2
  have R3 := Lib.hid (show RdL w A' xs' by rw [← e3]; exact h3.take 18); clear h3
  have R4 := Lib.hid (show RdL w B' ys' by rw [← e4]; exact h4.take 18); clear h4
  have L18 := Lib.hid (show xs.length ≤ 18 ∧ ys.length ≤ 18 ∧ xs'.length ≤ 18 ∧ ys'.length ≤ 18 by rw [← e1, ← e2, ← e3, ← e4]; exact ⟨few_le _, few_le _, few_le _, few_le _⟩)
  have KC := Lib.hid (show xs.length ≤ c ∧ ys.length ≤ d ∧ xs'.length ≤ c' ∧ ys'.length ≤ d' by rw [← e1, ← e2, ← e3, ← e4]; exact ⟨Nat.le_trans (few_short _) k1, Nat.le_trans (few_short _) k2, Nat.le_trans (few_short _) k3, Nat.le_trans (few_short _) k4⟩)
  have M := Lib.hid (show Lim xs ∧ Lim ys ∧ Lim xs' ∧ Lim ys' by rw [← e1, ← e2, ← e3, ← e4]; exact ⟨few_lim m1, few_lim m2, few_lim m3, few_lim m4⟩); clear m1 m2 m3 m4
  have F := Lib.hid (And.intro (And.intro k1 (And.intro k2 (And.intro e1 e2))) (And.intro k3 (And.intro k4 (And.intro e3 e4)))); clear k1 k2 k3 k4 e1 e2 e3 e4
  obtain ⟨wa, hwa⟩ : ∃ wa, wa = (w.alloc (.cells #[.bool s, .slice A x0.length c, .slice B y0.length d] 25)).alloc (.cells #[.bool s', .slice A' x0'.length c', .slice B' y0'.length d'] 25) := ⟨_, rfl⟩
  have hbl : Below w.heap.size w wa := by rw [hwa]; exact bel_alloc (bel_alloc (bel_refl _) _) _
  have CX : Blk wa (w.heap.size) 25 #[.bool s, .slice A x0.length c, .slice B y0.length d] := by
    have hz := Blk.new (w) 25 #[.bool s, .slice A x0.length c, .slice B y0.length d]
    rw [hwa]
    exact (hz.alloc _)
  have CY : Blk wa (w.heap.size + 1) 25 #[.bool s', .slice A' x0'.length c', .slice B' y0'.length d'] := by
    have hz := Blk.new (w.alloc (.cells #[.bool s, .slice A x0.length c, .slice B y0.length d] 25)) 25 #[.bool s', .slice A' x0'.length c', .slice B' y0'.length d']
    rw [World.size_alloc] at hz
    rw [hwa]
    exact hz
  replace R1 := Lib.hid (R1.out.below hbl)
  replace R2 := Lib.hid (R2.out.below hbl)
  replace R3 := Lib.hid (R3.out.below hbl)
  replace R4 := Lib.hid (R4.out.below hbl)
  have HW := Lib.hid hbl; clear hbl
  replace CX := Lib.hid CX
  replace CY := Lib.hid CY
  go_enter Try.func5, Try.ntmps5
  go_wp2_with fail
  rw [← hwa]
  clear hwa
  refine wp_region_typed 4 (TOf [VIs (.agg #[.bool s, .slice A x0.length c, .slice B y0.length d]),
      VIs (.agg #[.bool s, .slice A xs.length c, .slice B ys.length d]),
      VIs (.agg #[.bool s', .slice A' x0'.length c', .slice B' y0'.length d']),
      VIs (.agg #[.bool s', .slice A' xs'.length c', .slice B' ys'.length d'])]) (by kernel_rfl) (by kernel_rfl) (by kernel_rfl) (LiftAll.at_ (.cons (VIs.lift _) (.cons (VIs.lift _) (.cons (VIs.lift _) (.cons (VIs.lift _) .nil))))) (steps_all (steps_cons ?_ (steps_cons ?_ (steps_cons ?_ (steps_cons ?_ steps_zero))))) ?fin
  · intro a0 w9 K9 hF hB hK hC
    have b2 := hF.base (k := 2) (v := .pointer (some ⟨w.heap.size, 0, none⟩)) (by kernel_rfl) rfl
    have x90 : w9.cell? ⟨w.heap.size, 0, none⟩ = some (.bool s) := (CX.out.below hB CX.out.lt).cell 0
    have x91 : w9.cell? ⟨w.heap.size, 1, none⟩ = some (.slice A x0.length c) := (CX.out.below hB CX.out.lt).cell 1
    have x92 : w9.cell? ⟨w.heap.size, 2, none⟩ = some (.slice B y0.length d) := (CX.out.below hB CX.out.lt).cell 2
    clear hF hB hK
    go_simp
    exact hC _ _ (bel_refl _) fun _ _ => rfl
  · intro a0 w9 K9 hF hB hK hC
    obtain ⟨v16, e16, z16⟩ := dep hK 0 (g := .data) (j := 0) (k := 16) rfl rfl rfl
    have z16 : v16 = .agg #[.bool s, .slice A x0.length c, .slice B y0.length d] := z16
    subst z16
    have HB9 := Lib.hid hB
    clear hF hB hK
    go_simp
    refine (fewQ_is s A B c d x0 y0 xs ys _ F.out.1.1 F.out.1.2.1 F.out.1.2.2.1 F.out.1.2.2.2).mono ?_
    rintro e w7 ⟨rfl, hbl⟩
    exact hC _ _ hbl fun _ _ => rfl
  · intro a0 w9 K9 hF hB hK hC
    have b3 := hF.base (k := 3) (v := .pointer (some ⟨w.heap.size + 1, 0, none⟩)) (by kernel_rfl) rfl
    have x90 : w9.cell? ⟨w.heap.size + 1, 0, none⟩ = some (.bool s') := (CY.out.below hB CY.out.lt).cell 0
    have x91 : w9.cell? ⟨w.heap.size + 1, 1, none⟩ = some (.slice A' x0'.length c') := (CY.out.below hB CY.out.lt).cell 1
    have x92 : w9.cell? ⟨w.heap.size + 1, 2, none⟩ = some (.slice B' y0'.length d') := (CY.out.below hB CY.out.lt).cell 2
    clear hF hB hK
    go_simp
    exact hC _ _ (bel_refl _) fun _ _ => rfl
  · intro a0 w9 K9 hF hB hK hC
    obtain ⟨v18, e18, z18⟩ := dep hK 0 (g := .data) (j := 2) (k := 18) rfl rfl rfl
    have z18 : v18 = .agg #[.bool s', .slice A' x0'.length c', .slice B' y0'.length d'] := z18
    subst z18
    have HB9 := Lib.hid hB
    clear hF hB hK
    go_simp
    refine (fewQ_is s' A' B' c' d' x0' y0' xs' ys' _ F.out.2.1 F.out.2.2.1 F.out.2.2.2.1 F.out.2.2.2.2).mono ?_
    rintro e w7 ⟨rfl, hbl⟩
    exact hC _ _ hbl fun _ _ => rfl
  case fin =>
    intro a0 w9 hF hB hK
    have b2 := hF.base (k := 2) (v := .pointer (some ⟨w.heap.size, 0, none⟩)) (by kernel_rfl) rfl
    have b3 := hF.base (k := 3) (v := .pointer (some ⟨w.heap.size + 1, 0, none⟩)) (by kernel_rfl) rfl
    have hsz := hF.size
    have hdf := hF.defers
    clear hF
    obtain ⟨v17, e17, z17⟩ := known hK 1 (k := 17) (by decide) rfl
    have z17 : v17 = .agg #[.bool s, .slice A xs.length c, .slice B ys.length d] := z17
    subst z17
    obtain ⟨v19, e19, z19⟩ := known hK 3 (k := 19) (by decide) rfl
    have z19 : v19 = .agg #[.bool s', .slice A' xs'.length c', .slice B' ys'.length d'] := z19
    subst z19
    clear hK
    obtain ⟨⟨l0⟩, df⟩ := a0
    have hs0 : l0.length = 140 := hsz
    clear hsz
    replace hdf : df = _ := hdf
    subst hdf
    obtain ⟨u, rfl⟩ := lits_140 hs0
    clear hs0
    have q2 : u 2 = _ := Option.some.inj b2
    clear b2
    have q3 : u 3 = _ := Option.some.inj b3
    clear b3
    have q17 : u 17 = _ := Option.some.inj e17
    clear e17
    have q19 : u 19 = _ := Option.some.inj e19
    clear e19
    rw [q2, q3, q17, q19]
    clear q2 q3 q17 q19
    have hbl := hB; clear hB
    replace R1 := Lib.hid (R1.out.below hbl)
    replace R2 := Lib.hid (R2.out.below hbl)
    replace R3 := Lib.hid (R3.out.below hbl)
    replace R4 := Lib.hid (R4.out.below hbl)
    replace CX := Lib.hid (CX.out.below hbl CX.out.lt)
    replace CY := Lib.hid (CY.out.below hbl CY.out.lt)
    replace HW := Lib.hid (bel_trans HW.out hbl); clear hbl
    simp only [List.drop_succ_cons, List.drop_zero]
    have pd0 := CX.out.cell 0
    have pf0 := CX.out.frozen 0
    have pd1 := CX.out.cell 1
    have pf1 := CX.out.frozen 1
    have pd2 := CX.out.cell 2
    have pf2 := CX.out.frozen 2
    have qd0 := CY.out.cell 0
    have qf0 := CY.out.frozen 0
    have qd1 := CY.out.cell 1
    have qf1 := CY.out.frozen 1
    have qd2 := CY.out.cell 2
    have qf2 := CY.out.frozen 2
    go_upto_region 2 with fail
    clear pd0 pf0 pd1 pf1 pd2 pf2 qd0 qf0 qd1 qf1 qd2 qf2
    obtain ⟨wf, hwf⟩ : ∃ wf, wf = ((((((w9.setCell ⟨w.heap.size, 0, none⟩ (.bool s)).setCell ⟨w.heap.size, 1, none⟩ (.slice A xs.length c)).setCell ⟨w.heap.size, 2, none⟩ (.slice B ys.length d)).setCell ⟨w.heap.size + 1, 0, none⟩ (.bool s')).setCell ⟨w.heap.size + 1, 1, none⟩ (.slice A' xs'.length c')).setCell ⟨w.heap.size + 1, 2, none⟩ (.slice B' ys'.length d')) := ⟨_, rfl⟩
    rw [← hwf]
    replace R1 := Lib.hid (show RdL wf _ _ by rw [hwf]; exact RdL.set3 ((((CY.out).far (p := ⟨w.heap.size, 0, none⟩) (by simp) _).far (p := ⟨w.heap.size, 1, none⟩) (by simp) _).far (p := ⟨w.heap.size, 2, none⟩) (by simp) _) (RdL.set3 (CX.out) (R1.out) _ _ _) _ _ _)
    replace R2 := Lib.hid (show RdL wf _ _ by rw [hwf]; exact RdL.set3 ((((CY.out).far (p := ⟨w.heap.size, 0, none⟩) (by simp) _).far (p := ⟨w.heap.size, 1, none⟩) (by simp) _).far (p := ⟨w.heap.size, 2, none⟩) (by simp) _) (RdL.set3 (CX.out) (R2.out) _ _ _) _ _ _)
    replace R3 := Lib.hid (show RdL wf _ _ by rw [hwf]; exact RdL.set3 ((((CY.out).far (p := ⟨w.heap.size, 0, none⟩) (by simp) _).far (p := ⟨w.heap.size, 1, none⟩) (by simp) _).far (p := ⟨w.heap.size, 2, none⟩) (by simp) _) (RdL.set3 (CX.out) (R3.out) _ _ _) _ _ _)
    replace R4 := Lib.hid (show RdL wf _ _ by rw [hwf]; exact RdL.set3 ((((CY.out).far (p := ⟨w.heap.size, 0, none⟩) (by simp) _).far (p := ⟨w.heap.size, 1, none⟩) (by simp) _).far (p := ⟨w.heap.size, 2, none⟩) (by simp) _) (RdL.set3 (CX.out) (R4.out) _ _ _) _ _ _)
    have CX_ := Lib.hid (show Blk wf (w.heap.size) 25 #[.bool s, .slice A xs.length c, .slice B ys.length d] by rw [hwf]; exact ((((((CX.out).put 0 (.bool s)).put 1 (.slice A xs.length c)).put 2 (.slice B ys.length d)).far (p := ⟨w.heap.size + 1, 0, none⟩) (by simp) _).far (p := ⟨w.heap.size + 1, 1, none⟩) (by simp) _).far (p := ⟨w.heap.size + 1, 2, none⟩) (by simp) _)
    have CY_ := Lib.hid (show Blk wf (w.heap.size + 1) 25 #[.bool s', .slice A' xs'.length c', .slice B' ys'.length d'] by rw [hwf]; exact ((((((CY.out).far (p := ⟨w.heap.size, 0, none⟩) (by simp) _).far (p := ⟨w.heap.size, 1, none⟩) (by simp) _).far (p := ⟨w.heap.size, 2, none⟩) (by simp) _).put 0 (.bool s')).put 1 (.slice A' xs'.length c')).put 2 (.slice B' ys'.length d'))
    replace CX := CX_; clear CX_
    replace CY := CY_; clear CY_
    replace HW := Lib.hid (show Below w.heap.size w wf by rw [hwf]; exact bel_set (p := ⟨w.heap.size + 1, 2, none⟩) (bel_set (p := ⟨w.heap.size + 1, 1, none⟩) (bel_set (p := ⟨w.heap.size + 1, 0, none⟩) (bel_set (p := ⟨w.heap.size, 2, none⟩) (bel_set (p := ⟨w.heap.size, 1, none⟩) (bel_set (p := ⟨w.heap.size, 0, none⟩) (HW.out) (by show w.heap.size ≤ w.heap.size; omega) _) (by show w.heap.size ≤ w.heap.size; omega) _) (by show w.heap.size ≤ w.heap.size; omega) _) (by show w.heap.size ≤ w.heap.size + 1; omega) _) (by show w.heap.size ≤ w.heap.size + 1; omega) _) (by show w.heap.size ≤ w.heap.size + 1; omega) _)
    clear hwf
    have CX0 : wf.cell? ⟨w.heap.size, 0, none⟩ = some (.bool s) := CX.out.cell 0
    have CX1 : wf.cell? ⟨w.heap.size, 1, none⟩ = some (.slice A xs.length c) := CX.out.cell 1
    have CX2 : wf.cell? ⟨w.heap.size, 2, none⟩ = some (.slice B ys.length d) := CX.out.cell 2
    have CY0 : wf.cell? ⟨w.heap.size + 1, 0, none⟩ = some (.bool s') := CY.out.cell 0
    have CY1 : wf.cell? ⟨w.heap.size + 1, 1, none⟩ = some (.slice A' xs'.length c') := CY.out.cell 1
    have CY2 : wf.cell? ⟨w.heap.size + 1, 2, none⟩ = some (.slice B' ys'.length d') := CY.out.cell 2
    go_wp2_with fail
    refine (add_of s s' A B A' B' _ _ _ _ c d c' d' _ (fun w1 hb => add_bad false s s' A B A' B' c d c' d' xs ys xs' ys' w1 (R1.out.below hb) (R2.out.below hb) (R3.out.below hb) (R4.out.below hb) M.out.1 M.out.2.1 M.out.2.2.1 M.out.2.2.2 L18.out.1 L18.out.2.1 L18.out.2.2.1 L18.out.2.2.2 KC.out.1 KC.out.2.1 KC.out.2.2.1 KC.out.2.2.2 HRR.out)).mono ?_
    rintro e w1 ⟨vs, vt, rfl, hns, hnt, hbl⟩
    replace R1 := Lib.hid (R1.out.below hbl)
    replace R2 := Lib.hid (R2.out.below hbl)
    replace R3 := Lib.hid (R3.out.below hbl)
    replace R4 := Lib.hid (R4.out.below hbl)
    replace CX := Lib.hid (CX.out.below hbl CX.out.lt)
    replace CY := Lib.hid (CY.out.below hbl CY.out.lt)
    replace HW := Lib.hid (bel_trans HW.out hbl); clear hbl
    clear CX0 CX1 CX2 CY0 CY1 CY2
    have CX0 : w1.cell? ⟨w.heap.size, 0, none⟩ = some (.bool s) := CX.out.cell 0
    have CX1 : w1.cell? ⟨w.heap.size, 1, none⟩ = some (.slice A xs.length c) := CX.out.cell 1
    have CX2 : w1.cell? ⟨w.heap.size, 2, none⟩ = some (.slice B ys.length d) := CX.out.cell 2
    have CY0 : w1.cell? ⟨w.heap.size + 1, 0, none⟩ = some (.bool s') := CY.out.cell 0
    have CY1 : w1.cell? ⟨w.heap.size + 1, 1, none⟩ = some (.slice A' xs'.length c') := CY.out.cell 1
    have CY2 : w1.cell? ⟨w.heap.size + 1, 2, none⟩ = some (.slice B' ys'.length d') := CY.out.cell 2
    have HNs := Lib.hid hns; clear hns
    obtain ⟨As, cs, rfl, hcs, hrs⟩ := HNs.out.row
    have Rs := Lib.hid hrs; have HCs := Lib.hid hcs; clear hrs hcs
    have HNt := Lib.hid hnt; clear hnt
    obtain ⟨At, ct, rfl, hct, hrt⟩ := HNt.out.row
    have Rt := Lib.hid hrt; have HCt := Lib.hid hct; clear hrt hct
    rw [show noQ.s = false from rfl, show noQ.n = 0 from rfl, show noQ.d = 0 from rfl, limbs0]
    go_upto_region 3 with fail
    obtain ⟨wk1, hwk1⟩ : ∃ wk1, wk1 = w1.alloc (.cells #[.bool false, .slice As 0 cs, .slice At 0 ct] 25) := ⟨_, rfl⟩
    rw [← hwk1]
    have hbl : Below w1.heap.size w1 wk1 := by rw [hwk1]; exact bel_alloc (bel_refl _) _
    have VS : Blk wk1 (w1.heap.size) 25 #[.bool false, .slice As 0 cs, .slice At 0 ct] := by
      have hz := Blk.new (w1) 25 #[.bool false, .slice As 0 cs, .slice At 0 ct]
      rw [hwk1]
      exact hz
    clear hwk1
    replace R1 := Lib.hid (R1.out.below hbl)
    replace R2 := Lib.hid (R2.out.below hbl)
    replace R3 := Lib.hid (R3.out.below hbl)
    replace R4 := Lib.hid (R4.out.below hbl)
    replace Rs := Lib.hid (Rs.out.below hbl)
    replace HNs := Lib.hid (HNs.out.below hbl)
    replace Rt := Lib.hid (Rt.out.below hbl)
    replace HNt := Lib.hid (HNt.out.below hbl)
    replace CX := Lib.hid (CX.out.below hbl CX.out.lt)
    replace CY := Lib.hid (CY.out.below hbl CY.out.lt)
    replace HW := Lib.hid (bel_trans HW.out hbl); clear hbl
    replace VS := Lib.hid VS
    clear CX0 CX1 CX2 CY0 CY1 CY2
    have CX0 : wk1.cell? ⟨w.heap.size, 0, none⟩ = some (.bool s) := CX.out.cell 0
    have CX1 : wk1.cell? ⟨w.heap.size, 1, none⟩ = some (.slice A xs.length c) := CX.out.cell 1
    have CX2 : wk1.cell? ⟨w.heap.size, 2, none⟩ = some (.slice B ys.length d) := CX.out.cell 2
    have CY0 : wk1.cell? ⟨w.heap.size + 1, 0, none⟩ = some (.bool s') := CY.out.cell 0
    have CY1 : wk1.cell? ⟨w.heap.size + 1, 1, none⟩ = some (.slice A' xs'.length c') := CY.out.cell 1
    have CY2 : wk1.cell? ⟨w.heap.size + 1, 2, none⟩ = some (.slice B' ys'.length d') := CY.out.cell 2
    have VS0 : wk1.cell? ⟨w1.heap.size, 0, none⟩ = some (.bool false) := VS.out.cell 0
    have VS1 : wk1.cell? ⟨w1.heap.size, 1, none⟩ = some (.slice As 0 cs) := VS.out.cell 1
    have VS2 : wk1.cell? ⟨w1.heap.size, 2, none⟩ = some (.slice At 0 ct) := VS.out.cell 2
    go_wp2_with fail
    refine (sub_of s s' A B A' B' _ _ _ _ c d c' d' _ (fun w1 hb => add_bad true s s' A B A' B' c d c' d' xs ys xs' ys' w1 (R1.out.below hb) (R2.out.below hb) (R3.out.below hb) (R4.out.below hb) M.out.1 M.out.2.1 M.out.2.2.1 M.out.2.2.2 L18.out.1 L18.out.2.1 L18.out.2.2.1 L18.out.2.2.2 KC.out.1 KC.out.2.1 KC.out.2.2.1 KC.out.2.2.2 HRR.out)).mono ?_
    rintro e w2 ⟨vu, vv, rfl, hnu, hnv, hbl⟩
    replace R1 := Lib.hid (R1.out.below hbl)
    replace R2 := Lib.hid (R2.out.below hbl)
    replace R3 := Lib.hid (R3.out.below hbl)
    replace R4 := Lib.hid (R4.out.below hbl)
    replace Rs := Lib.hid (Rs.out.below hbl)
    replace HNs := Lib.hid (HNs.out.below hbl)
    replace Rt := Lib.hid (Rt.out.below hbl)
    replace HNt := Lib.hid (HNt.out.below hbl)
    replace CX := Lib.hid (CX.out.below hbl CX.out.lt)
    replace CY := Lib.hid (CY.out.below hbl CY.out.lt)
    replace VS := Lib.hid (VS.out.below hbl VS.out.lt)
    replace HW := Lib.hid (bel_trans HW.out hbl); clear hbl
    clear CX0 CX1 CX2 CY0 CY1 CY2 VS0 VS1 VS2
    have CX0 : w2.cell? ⟨w.heap.size, 0, none⟩ = some (.bool s) := CX.out.cell 0
    have CX1 : w2.cell? ⟨w.heap.size, 1, none⟩ = some (.slice A xs.length c) := CX.out.cell 1
    have CX2 : w2.cell? ⟨w.heap.size, 2, none⟩ = some (.slice B ys.length d) := CX.out.cell 2
    have CY0 : w2.cell? ⟨w.heap.size + 1, 0, none⟩ = some (.bool s') := CY.out.cell 0
    have CY1 : w2.cell? ⟨w.heap.size + 1, 1, none⟩ = some (.slice A' xs'.length c') := CY.out.cell 1
    have CY2 : w2.cell? ⟨w.heap.size + 1, 2, none⟩ = some (.slice B' ys'.length d') := CY.out.cell 2
    have VS0 : w2.cell? ⟨w1.heap.size, 0, none⟩ = some (.bool false) := VS.out.cell 0
    have VS1 : w2.cell? ⟨w1.heap.size, 1, none⟩ = some (.slice As 0 cs) := VS.out.cell 1
    have VS2 : w2.cell? ⟨w1.heap.size, 2, none⟩ = some (.slice At 0 ct) := VS.out.cell 2
    have HNu := Lib.hid hnu; clear hnu
    obtain ⟨Au, cu, rfl, hcu, hru⟩ := HNu.out.row
    have Ru := Lib.hid hru; have HCu := Lib.hid hcu; clear hru hcu
    have HNv := Lib.hid hnv; clear hnv
    obtain ⟨Av, cv, rfl, hcv, hrv⟩ := HNv.out.row
    have Rv := Lib.hid hrv; have HCv := Lib.hid hcv; clear hrv hcv
    rw [show noQ.s = false from rfl, show noQ.n = 0 from rfl, show noQ.d = 0 from rfl, limbs0]
    go_upto_region 4 with fail
    obtain ⟨wk2, hwk2⟩ : ∃ wk2, wk2 = w2.alloc (.cells #[.bool false, .slice Au 0 cu, .slice Av 0 cv] 25) := ⟨_, rfl⟩
    rw [← hwk2]
    have hbl : Below w2.heap.size w2 wk2 := by rw [hwk2]; exact bel_alloc (bel_refl _) _
    have VD : Blk wk2 (w2.heap.size) 25 #[.bool false, .slice Au 0 cu, .slice Av 0 cv] := by
      have hz := Blk.new (w2) 25 #[.bool false, .slice Au 0 cu, .slice Av 0 cv]
      rw [hwk2]
      exact hz
    clear hwk2
    replace R1 := Lib.hid (R1.out.below hbl)
    replace R2 := Lib.hid (R2.out.below hbl)
    replace R3 := Lib.hid (R3.out.below hbl)
    replace R4 := Lib.hid (R4.out.below hbl)
    replace Rs := Lib.hid (Rs.out.below hbl)
    replace HNs := Lib.hid (HNs.out.below hbl)
    replace Rt := Lib.hid (Rt.out.below hbl)
    replace HNt := Lib.hid (HNt.out.below hbl)
    replace Ru := Lib.hid (Ru.out.below hbl)
    replace HNu := Lib.hid (HNu.out.below hbl)
    replace Rv := Lib.hid (Rv.out.below hbl)
    replace HNv := Lib.hid (HNv.out.below hbl)
    replace CX := Lib.hid (CX.out.below hbl CX.out.lt)
    replace CY := Lib.hid (CY.out.below hbl CY.out.lt)
    replace VS := Lib.hid (VS.out.below hbl VS.out.lt)
    replace HW := Lib.hid (bel_trans HW.out hbl); clear hbl
    replace VD := Lib.hid VD
    clear CX0 CX1 CX2 CY0 CY1 CY2 VS0 VS1 VS2
    have CX0 : wk2.cell? ⟨w.heap.size, 0, none⟩ = some (.bool s) := CX.out.cell 0
    have CX1 : wk2.cell? ⟨w.heap.size, 1, none⟩ = some (.slice A xs.length c) := CX.out.cell 1
    have CX2 : wk2.cell? ⟨w.heap.size, 2, none⟩ = some (.slice B ys.length d) := CX.out.cell 2
    have CY0 : wk2.cell? ⟨w.heap.size + 1, 0, none⟩ = some (.bool s') := CY.out.cell 0
    have CY1 : wk2.cell? ⟨w.heap.size + 1, 1, none⟩ = some (.slice A' xs'.length c') := CY.out.cell 1
    have CY2 : wk2.cell? ⟨w.heap.size + 1, 2, none⟩ = some (.slice B' ys'.length d') := CY.out.cell 2
    have VS0 : wk2.cell? ⟨w1.heap.size, 0, none⟩ = some (.bool false) := VS.out.cell 0
    have VS1 : wk2.cell? ⟨w1.heap.size, 1, none⟩ = some (.slice As 0 cs) := VS.out.cell 1
    have VS2 : wk2.cell? ⟨w1.heap.size, 2, none⟩ = some (.slice At 0 ct) := VS.out.cell 2
    have VD0 : wk2.cell? ⟨w2.heap.size, 0, none⟩ = some (.bool false) := VD.out.cell 0
    have VD1 : wk2.cell? ⟨w2.heap.size, 1, none⟩ = some (.slice Au 0 cu) := VD.out.cell 1
    have VD2 : wk2.cell? ⟨w2.heap.size, 2, none⟩ = some (.slice Av 0 cv) := VD.out.cell 2
    go_wp2_with fail
    refine (mulQ_bad s s' A B A' B' c d c' d' xs ys xs' ys' _ R1.out R2.out R3.out R4.out M.out.1 M.out.2.1 M.out.2.2.1 M.out.2.2.2 L18.out.1 L18.out.2.1 L18.out.2.2.1 L18.out.2.2.2 KC.out.1 KC.out.2.1 KC.out.2.2.1 KC.out.2.2.2 HRR.out).mono ?_
    rintro e w3 ⟨vp, vr, rfl, hnp, hnr, hbl⟩
    replace R1 := Lib.hid (R1.out.below hbl)
    replace R2 := Lib.hid (R2.out.below hbl)
    replace R3 := Lib.hid (R3.out.below hbl)
    replace R4 := Lib.hid (R4.out.below hbl)
    replace Rs := Lib.hid (Rs.out.below hbl)
    replace HNs := Lib.hid (HNs.out.below hbl)
    replace Rt := Lib.hid (Rt.out.below hbl)
    replace HNt := Lib.hid (HNt.out.below hbl)
    replace Ru := Lib.hid (Ru.out.below hbl)
    replace HNu := Lib.hid (HNu.out.below hbl)
    replace Rv := Lib.hid (Rv.out.below hbl)
    replace HNv := Lib.hid (HNv.out.below hbl)
    replace CX := Lib.hid (CX.out.below hbl CX.out.lt)
    replace CY := Lib.hid (CY.out.below hbl CY.out.lt)
    replace VS := Lib.hid (VS.out.below hbl VS.out.lt)
    replace VD := Lib.hid (VD.out.below hbl VD.out.lt)
    replace HW := Lib.hid (bel_trans HW.out hbl); clear hbl
    clear CX0 CX1 CX2 CY0 CY1 CY2 VS0 VS1 VS2 VD0 VD1 VD2
    have CX0 : w3.cell? ⟨w.heap.size, 0, none⟩ = some (.bool s) := CX.out.cell 0
    have CX1 : w3.cell? ⟨w.heap.size, 1, none⟩ = some (.slice A xs.length c) := CX.out.cell 1
    have CX2 : w3.cell? ⟨w.heap.size, 2, none⟩ = some (.slice B ys.length d) := CX.out.cell 2
    have CY0 : w3.cell? ⟨w.heap.size + 1, 0, none⟩ = some (.bool s') := CY.out.cell 0
    have CY1 : w3.cell? ⟨w.heap.size + 1, 1, none⟩ = some (.slice A' xs'.length c') := CY.out.cell 1
    have CY2 : w3.cell? ⟨w.heap.size + 1, 2, none⟩ = some (.slice B' ys'.length d') := CY.out.cell 2
    have VS0 : w3.cell? ⟨w1.heap.size, 0, none⟩ = some (.bool false) := VS.out.cell 0
    have VS1 : w3.cell? ⟨w1.heap.size, 1, none⟩ = some (.slice As 0 cs) := VS.out.cell 1
    have VS2 : w3.cell? ⟨w1.heap.size, 2, none⟩ = some (.slice At 0 ct) := VS.out.cell 2
    have VD0 : w3.cell? ⟨w2.heap.size, 0, none⟩ = some (.bool false) := VD.out.cell 0
    have VD1 : w3.cell? ⟨w2.heap.size, 1, none⟩ = some (.slice Au 0 cu) := VD.out.cell 1
    have VD2 : w3.cell? ⟨w2.heap.size, 2, none⟩ = some (.slice Av 0 cv) := VD.out.cell 2
    have HNp := Lib.hid hnp; clear hnp
    obtain ⟨Ap, cp, rfl, hcp, hrp⟩ := HNp.out.row
    have Rp := Lib.hid hrp; have HCp := Lib.hid hcp; clear hrp hcp
    have HNr := Lib.hid hnr; clear hnr
    obtain ⟨Ar, cr, rfl, hcr, hrr⟩ := HNr.out.row
    have Rr := Lib.hid hrr; have HCr := Lib.hid hcr; clear hrr hcr
    rw [show noQ.s = false from rfl, show noQ.n = 0 from rfl, show noQ.d = 0 from rfl, limbs0]
    go_upto_region 5 with fail
    obtain ⟨wk3, hwk3⟩ : ∃ wk3, wk3 = w3.alloc (.cells #[.bool false, .slice Ap 0 cp, .slice Ar 0 cr] 25) := ⟨_, rfl⟩
    rw [← hwk3]
    have hbl : Below w3.heap.size w3 wk3 := by rw [hwk3]; exact bel_alloc (bel_refl _) _
    have VP : Blk wk3 (w3.heap.size) 25 #[.bool false, .slice Ap 0 cp, .slice Ar 0 cr] := by
      have hz := Blk.new (w3) 25 #[.bool false, .slice Ap 0 cp, .slice Ar 0 cr]
      rw [hwk3]
      exact hz
    clear hwk3
    replace R1 := Lib.hid (R1.out.below hbl)
    replace R2 := Lib.hid (R2.out.below hbl)
    replace R3 := Lib.hid (R3.out.below hbl)
    replace R4 := Lib.hid (R4.out.below hbl)
    replace Rs := Lib.hid (Rs.out.below hbl)
    replace HNs := Lib.hid (HNs.out.below hbl)
    replace Rt := Lib.hid (Rt.out.below hbl)
    replace HNt := Lib.hid (HNt.out.below hbl)
    replace Ru := Lib.hid (Ru.out.below hbl)
    replace HNu := Lib.hid (HNu.out.below hbl)
    replace Rv := Lib.hid (Rv.out.below hbl)
    replace HNv := Lib.hid (HNv.out.below hbl)
    replace Rp := Lib.hid (Rp.out.below hbl)
    replace HNp := Lib.hid (HNp.out.below hbl)
    replace Rr := Lib.hid (Rr.out.below hbl)
    replace HNr := Lib.hid (HNr.out.below hbl)
    replace CX := Lib.hid (CX.out.below hbl CX.out.lt)
    replace CY := Lib.hid (CY.out.below hbl CY.out.lt)
    replace VS := Lib.hid (VS.out.below hbl VS.out.lt)
    replace VD := Lib.hid (VD.out.below hbl VD.out.lt)
    replace HW := Lib.hid (bel_trans HW.out hbl); clear hbl
    replace VP := Lib.hid VP
    clear CX0 CX1 CX2 CY0 CY1 CY2 VS0 VS1 VS2 VD0 VD1 VD2
    have CX0 : wk3.cell? ⟨w.heap.size, 0, none⟩ = some (.bool s) := CX.out.cell 0
    have CX1 : wk3.cell? ⟨w.heap.size, 1, none⟩ = some (.slice A xs.length c) := CX.out.cell 1
    have CX2 : wk3.cell? ⟨w.heap.size, 2, none⟩ = some (.slice B ys.length d) := CX.out.cell 2
    have CY0 : wk3.cell? ⟨w.heap.size + 1, 0, none⟩ = some (.bool s') := CY.out.cell 0
    have CY1 : wk3.cell? ⟨w.heap.size + 1, 1, none⟩ = some (.slice A' xs'.length c') := CY.out.cell 1
    have CY2 : wk3.cell? ⟨w.heap.size + 1, 2, none⟩ = some (.slice B' ys'.length d') := CY.out.cell 2
    have VS0 : wk3.cell? ⟨w1.heap.size, 0, none⟩ = some (.bool false) := VS.out.cell 0
    have VS1 : wk3.cell? ⟨w1.heap.size, 1, none⟩ = some (.slice As 0 cs) := VS.out.cell 1
    have VS2 : wk3.cell? ⟨w1.heap.size, 2, none⟩ = some (.slice At 0 ct) := VS.out.cell 2
    have VD0 : wk3.cell? ⟨w2.heap.size, 0, none⟩ = some (.bool false) := VD.out.cell 0
    have VD1 : wk3.cell? ⟨w2.heap.size, 1, none⟩ = some (.slice Au 0 cu) := VD.out.cell 1
    have VD2 : wk3.cell? ⟨w2.heap.size, 2, none⟩ = some (.slice Av 0 cv) := VD.out.cell 2
    have VP0 : wk3.cell? ⟨w3.heap.size, 0, none⟩ = some (.bool false) := VP.out.cell 0
    have VP1 : wk3.cell? ⟨w3.heap.size, 1, none⟩ = some (.slice Ap 0 cp) := VP.out.cell 1
    have VP2 : wk3.cell? ⟨w3.heap.size, 2, none⟩ = some (.slice Ar 0 cr) := VP.out.cell 2
    go_wp2_with fail
    refine (quoQ_bad s s' A B A' B' c d c' d' xs ys xs' ys' _ R1.out R2.out R3.out R4.out M.out.1 M.out.2.1 M.out.2.2.1 M.out.2.2.2 L18.out.1 L18.out.2.1 L18.out.2.2.1 L18.out.2.2.2 KC.out.1 KC.out.2.1 KC.out.2.2.1 KC.out.2.2.2 HRR.out).mono ?_
    rintro e w4 ⟨vx, vy, rfl, hnx, hny, hbl⟩
    replace R1 := Lib.hid (R1.out.below hbl)
    replace R2 := Lib.hid (R2.out.below hbl)
    replace R3 := Lib.hid (R3.out.below hbl)
    replace R4 := Lib.hid (R4.out.below hbl)
    replace Rs := Lib.hid (Rs.out.below hbl)
    replace HNs := Lib.hid (HNs.out.below hbl)
    replace Rt := Lib.hid (Rt.out.below hbl)
    replace HNt := Lib.hid (HNt.out.below hbl)
    replace Ru := Lib.hid (Ru.out.below hbl)
    replace HNu := Lib.hid (HNu.out.below hbl)
    replace Rv := Lib.hid (Rv.out.below hbl)
    replace HNv := Lib.hid (HNv.out.below hbl)
    replace Rp := Lib.hid (Rp.out.below hbl)
    replace HNp := Lib.hid (HNp.out.below hbl)
    replace Rr := Lib.hid (Rr.out.below hbl)
    replace HNr := Lib.hid (HNr.out.below hbl)
    replace CX := Lib.hid (CX.out.below hbl CX.out.lt)
    replace CY := Lib.hid (CY.out.below hbl CY.out.lt)
    replace VS := Lib.hid (VS.out.below hbl VS.out.lt)
    replace VD := Lib.hid (VD.out.below hbl VD.out.lt)
    replace VP := Lib.hid (VP.out.below hbl VP.out.lt)
    replace HW := Lib.hid (bel_trans HW.out hbl); clear hbl
    clear CX0 CX1 CX2 CY0 CY1 CY2 VS0 VS1 VS2 VD0 VD1 VD2 VP0 VP1 VP2
    have CX0 : w4.cell? ⟨w.heap.size, 0, none⟩ = some (.bool s) := CX.out.cell 0
    have CX1 : w4.cell? ⟨w.heap.size, 1, none⟩ = some (.slice A xs.length c) := CX.out.cell 1
    have CX2 : w4.cell? ⟨w.heap.size, 2, none⟩ = some (.slice B ys.length d) := CX.out.cell 2
    have CY0 : w4.cell? ⟨w.heap.size + 1, 0, none⟩ = some (.bool s') := CY.out.cell 0
    have CY1 : w4.cell? ⟨w.heap.size + 1, 1, none⟩ = some (.slice A' xs'.length c') := CY.out.cell 1
    have CY2 : w4.cell? ⟨w.heap.size + 1, 2, none⟩ = some (.slice B' ys'.length d') := CY.out.cell 2
    have VS0 : w4.cell? ⟨w1.heap.size, 0, none⟩ = some (.bool false) := VS.out.cell 0
    have VS1 : w4.cell? ⟨w1.heap.size, 1, none⟩ = some (.slice As 0 cs) := VS.out.cell 1
    have VS2 : w4.cell? ⟨w1.heap.size, 2, none⟩ = some (.slice At 0 ct) := VS.out.cell 2
    have VD0 : w4.cell? ⟨w2.heap.size, 0, none⟩ = some (.bool false) := VD.out.cell 0
    have VD1 : w4.cell? ⟨w2.heap.size, 1, none⟩ = some (.slice Au 0 cu) := VD.out.cell 1
    have VD2 : w4.cell? ⟨w2.heap.size, 2, none⟩ = some (.slice Av 0 cv) := VD.out.cell 2
    have VP0 : w4.cell? ⟨w3.heap.size, 0, none⟩ = some (.bool false) := VP.out.cell 0
    have VP1 : w4.cell? ⟨w3.heap.size, 1, none⟩ = some (.slice Ap 0 cp) := VP.out.cell 1
    have VP2 : w4.cell? ⟨w3.heap.size, 2, none⟩ = some (.slice Ar 0 cr) := VP.out.cell 2
    have HNx := Lib.hid hnx; clear hnx
    obtain ⟨Ax, cx, rfl, hcx, hrx⟩ := HNx.out.row
    have Rx := Lib.hid hrx; have HCx := Lib.hid hcx; clear hrx hcx
    have HNy := Lib.hid hny; clear hny
    obtain ⟨Ay, cy, rfl, hcy, hry⟩ := HNy.out.row
    have Ry := Lib.hid hry; have HCy := Lib.hid hcy; clear hry hcy
    rw [show noQ.s = false from rfl, show noQ.n = 0 from rfl, show noQ.d = 0 from rfl, limbs0]
    go_upto_region 7 with fail
    obtain ⟨wk4, hwk4⟩ : ∃ wk4, wk4 = (w4.alloc (.cells #[.bool false, .slice Ax 0 cx, .slice Ay 0 cy] 25)).alloc (.cells #[.bool false, .slice none 0 0, .slice none 0 0] 25) := ⟨_, rfl⟩
    rw [← hwk4]
    have hbl : Below w4.heap.size w4 wk4 := by rw [hwk4]; exact bel_alloc (bel_alloc (bel_refl _) _) _
    have VQ : Blk wk4 (w4.heap.size) 25 #[.bool false, .slice Ax 0 cx, .slice Ay 0 cy] := by
      have hz := Blk.new (w4) 25 #[.bool false, .slice Ax 0 cx, .slice Ay 0 cy]
      rw [hwk4]
      exact (hz.alloc _)
    have VN : Blk wk4 (w4.heap.size + 1) 25 #[.bool false, .slice none 0 0, .slice none 0 0] := by
      have hz := Blk.new (w4.alloc (.cells #[.bool false, .slice Ax 0 cx, .slice Ay 0 cy] 25)) 25 #[.bool false, .slice none 0 0, .slice none 0 0]
      rw [World.size_alloc] at hz
      rw [hwk4]
      exact hz
    clear hwk4
    replace R1 := Lib.hid (R1.out.below hbl)
    replace R2 := Lib.hid (R2.out.below hbl)
    replace R3 := Lib.hid (R3.out.below hbl)
    replace R4 := Lib.hid (R4.out.below hbl)
    replace Rs := Lib.hid (Rs.out.below hbl)
    replace HNs := Lib.hid (HNs.out.below hbl)
    replace Rt := Lib.hid (Rt.out.below hbl)
    replace HNt := Lib.hid (HNt.out.below hbl)
    replace Ru := Lib.hid (Ru.out.below hbl)
    replace HNu := Lib.hid (HNu.out.below hbl)
    replace Rv := Lib.hid (Rv.out.below hbl)
    replace HNv := Lib.hid (HNv.out.below hbl)
    replace Rp := Lib.hid (Rp.out.below hbl)
    replace HNp := Lib.hid (HNp.out.below hbl)
    replace Rr := Lib.hid (Rr.out.below hbl)
    replace HNr := Lib.hid (HNr.out.below hbl)
    replace Rx := Lib.hid (Rx.out.below hbl)
    replace HNx := Lib.hid (HNx.out.below hbl)
    replace Ry := Lib.hid (Ry.out.below hbl)
    replace HNy := Lib.hid (HNy.out.below hbl)
    replace CX := Lib.hid (CX.out.below hbl CX.out.lt)
    replace CY := Lib.hid (CY.out.below hbl CY.out.lt)
    replace VS := Lib.hid (VS.out.below hbl VS.out.lt)
    replace VD := Lib.hid (VD.out.below hbl VD.out.lt)
    replace VP := Lib.hid (VP.out.below hbl VP.out.lt)
    replace HW := Lib.hid (bel_trans HW.out hbl); clear hbl
    replace VQ := Lib.hid VQ
    replace VN := Lib.hid VN
    clear CX0 CX1 CX2 CY0 CY1 CY2 VS0 VS1 VS2 VD0 VD1 VD2 VP0 VP1 VP2
    have CX0 : wk4.cell? ⟨w.heap.size, 0, none⟩ = some (.bool s) := CX.out.cell 0
    have CX1 : wk4.cell? ⟨w.heap.size, 1, none⟩ = some (.slice A xs.length c) := CX.out.cell 1
    have CX2 : wk4.cell? ⟨w.heap.size, 2, none⟩ = some (.slice B ys.length d) := CX.out.cell 2
    have CY0 : wk4.cell? ⟨w.heap.size + 1, 0, none⟩ = some (.bool s') := CY.out.cell 0
    have CY1 : wk4.cell? ⟨w.heap.size + 1, 1, none⟩ = some (.slice A' xs'.length c') := CY.out.cell 1
    have CY2 : wk4.cell? ⟨w.heap.size + 1, 2, none⟩ = some (.slice B' ys'.length d') := CY.out.cell 2
    have VS0 : wk4.cell? ⟨w1.heap.size, 0, none⟩ = some (.bool false) := VS.out.cell 0
    have VS1 : wk4.cell? ⟨w1.heap.size, 1, none⟩ = some (.slice As 0 cs) := VS.out.cell 1
    have VS2 : wk4.cell? ⟨w1.heap.size, 2, none⟩ = some (.slice At 0 ct) := VS.out.cell 2
    have VD0 : wk4.cell? ⟨w2.heap.size, 0, none⟩ = some (.bool false) := VD.out.cell 0
    have VD1 : wk4.cell? ⟨w2.heap.size, 1, none⟩ = some (.slice Au 0 cu) := VD.out.cell 1
    have VD2 : wk4.cell? ⟨w2.heap.size, 2, none⟩ = some (.slice Av 0 cv) := VD.out.cell 2
    have VP0 : wk4.cell? ⟨w3.heap.size, 0, none⟩ = some (.bool false) := VP.out.cell 0
    have VP1 : wk4.cell? ⟨w3.heap.size, 1, none⟩ = some (.slice Ap 0 cp) := VP.out.cell 1
    have VP2 : wk4.cell? ⟨w3.heap.size, 2, none⟩ = some (.slice Ar 0 cr) := VP.out.cell 2
    have VQ0 : wk4.cell? ⟨w4.heap.size, 0, none⟩ = some (.bool false) := VQ.out.cell 0
    have VQ1 : wk4.cell? ⟨w4.heap.size, 1, none⟩ = some (.slice Ax 0 cx) := VQ.out.cell 1
    have VQ2 : wk4.cell? ⟨w4.heap.size, 2, none⟩ = some (.slice Ay 0 cy) := VQ.out.cell 2
    have VN0 : wk4.cell? ⟨w4.heap.size + 1, 0, none⟩ = some (.bool false) := VN.out.cell 0
    have VN1 : wk4.cell? ⟨w4.heap.size + 1, 1, none⟩ = some (.slice none 0 0) := VN.out.cell 1
    have VN2 : wk4.cell? ⟨w4.heap.size + 1, 2, none⟩ = some (.slice none 0 0) := VN.out.cell 2
    go_wp2_with fail
    refine (refRatRight_is s A B c d xs ys _ R1.out R2.out M.out.1 M.out.2.1 L18.out.1 L18.out.2.1 HR.out).mono ?_
    rintro e w5 ⟨rfl, hbl⟩
    replace R1 := Lib.hid (R1.out.below hbl)
    replace R2 := Lib.hid (R2.out.below hbl)
    replace R3 := Lib.hid (R3.out.below hbl)
    replace R4 := Lib.hid (R4.out.below hbl)
    replace Rs := Lib.hid (Rs.out.below hbl)
    replace HNs := Lib.hid (HNs.out.below hbl)
    replace Rt := Lib.hid (Rt.out.below hbl)
    replace HNt := Lib.hid (HNt.out.below hbl)
    replace Ru := Lib.hid (Ru.out.below hbl)
    replace HNu := Lib.hid (HNu.out.below hbl)
    replace Rv := Lib.hid (Rv.out.below hbl)
    replace HNv := Lib.hid (HNv.out.below hbl)
    replace Rp := Lib.hid (Rp.out.below hbl)
    replace HNp := Lib.hid (HNp.out.below hbl)
    replace Rr := Lib.hid (Rr.out.below hbl)
    replace HNr := Lib.hid (HNr.out.below hbl)
    replace Rx := Lib.hid (Rx.out.below hbl)
    replace HNx := Lib.hid (HNx.out.below hbl)
    replace Ry := Lib.hid (Ry.out.below hbl)
    replace HNy := Lib.hid (HNy.out.below hbl)
    replace CX := Lib.hid (CX.out.below hbl CX.out.lt)
    replace CY := Lib.hid (CY.out.below hbl CY.out.lt)
    replace VS := Lib.hid (VS.out.below hbl VS.out.lt)
    replace VD := Lib.hid (VD.out.below hbl VD.out.lt)
    replace VP := Lib.hid (VP.out.below hbl VP.out.lt)
    replace VQ := Lib.hid (VQ.out.below hbl VQ.out.lt)
    replace VN := Lib.hid (VN.out.below hbl VN.out.lt)
    replace HW := Lib.hid (bel_trans HW.out hbl); clear hbl
    clear CX0 CX1 CX2 CY0 CY1 CY2 VS0 VS1 VS2 VD0 VD1 VD2 VP0 VP1 VP2 VQ0 VQ1 VQ2 VN0 VN1 VN2
    have CX0 : w5.cell? ⟨w.heap.size, 0, none⟩ = some (.bool s) := CX.out.cell 0
    have CX1 : w5.cell? ⟨w.heap.size, 1, none⟩ = some (.slice A xs.length c) := CX.out.cell 1
    have CX2 : w5.cell? ⟨w.heap.size, 2, none⟩ = some (.slice B ys.length d) := CX.out.cell 2
    have CY0 : w5.cell? ⟨w.heap.size + 1, 0, none⟩ = some (.bool s') := CY.out.cell 0
    have CY1 : w5.cell? ⟨w.heap.size + 1, 1, none⟩ = some (.slice A' xs'.length c') := CY.out.cell 1
    have CY2 : w5.cell? ⟨w.heap.size + 1, 2, none⟩ = some (.slice B' ys'.length d') := CY.out.cell 2
    have VS0 : w5.cell? ⟨w1.heap.size, 0, none⟩ = some (.bool false) := VS.out.cell 0
    have VS1 : w5.cell? ⟨w1.heap.size, 1, none⟩ = some (.slice As 0 cs) := VS.out.cell 1
    have VS2 : w5.cell? ⟨w1.heap.size, 2, none⟩ = some (.slice At 0 ct) := VS.out.cell 2
    have VD0 : w5.cell? ⟨w2.heap.size, 0, none⟩ = some (.bool false) := VD.out.cell 0
    have VD1 : w5.cell? ⟨w2.heap.size, 1, none⟩ = some (.slice Au 0 cu) := VD.out.cell 1
    have VD2 : w5.cell? ⟨w2.heap.size, 2, none⟩ = some (.slice Av 0 cv) := VD.out.cell 2
    have VP0 : w5.cell? ⟨w3.heap.size, 0, none⟩ = some (.bool false) := VP.out.cell 0
    have VP1 : w5.cell? ⟨w3.heap.size, 1, none⟩ = some (.slice Ap 0 cp) := VP.out.cell 1
    have VP2 : w5.cell? ⟨w3.heap.size, 2, none⟩ = some (.slice Ar 0 cr) := VP.out.cell 2
    have VQ0 : w5.cell? ⟨w4.heap.size, 0, none⟩ = some (.bool false) := VQ.out.cell 0
    have VQ1 : w5.cell? ⟨w4.heap.size, 1, none⟩ = some (.slice Ax 0 cx) := VQ.out.cell 1
    have VQ2 : w5.cell? ⟨w4.heap.size, 2, none⟩ = some (.slice Ay 0 cy) := VQ.out.cell 2
    have VN0 : w5.cell? ⟨w4.heap.size + 1, 0, none⟩ = some (.bool false) := VN.out.cell 0
    have VN1 : w5.cell? ⟨w4.heap.size + 1, 1, none⟩ = some (.slice none 0 0) := VN.out.cell 1
    have VN2 : w5.cell? ⟨w4.heap.size + 1, 2, none⟩ = some (.slice none 0 0) := VN.out.cell 2
    go_wp2_with fail
    refine (aliveQ _).mono ?_
    rintro e w6 ⟨rfl, hbl⟩
    replace R1 := Lib.hid (R1.out.below hbl)
    replace R2 := Lib.hid (R2.out.below hbl)
    replace R3 := Lib.hid (R3.out.below hbl)
    replace R4 := Lib.hid (R4.out.below hbl)
    replace Rs := Lib.hid (Rs.out.below hbl)
    replace HNs := Lib.hid (HNs.out.below hbl)
    replace Rt := Lib.hid (Rt.out.below hbl)
    replace HNt := Lib.hid (HNt.out.below hbl)
    replace Ru := Lib.hid (Ru.out.below hbl)
    replace HNu := Lib.hid (HNu.out.below hbl)
    replace Rv := Lib.hid (Rv.out.below hbl)
    replace HNv := Lib.hid (HNv.out.below hbl)
    replace Rp := Lib.hid (Rp.out.below hbl)
    replace HNp := Lib.hid (HNp.out.below hbl)
    replace Rr := Lib.hid (Rr.out.below hbl)
    replace HNr := Lib.hid (HNr.out.below hbl)
    replace Rx := Lib.hid (Rx.out.below hbl)
    replace HNx := Lib.hid (HNx.out.below hbl)
    replace Ry := Lib.hid (Ry.out.below hbl)
    replace HNy := Lib.hid (HNy.out.below hbl)
    replace CX := Lib.hid (CX.out.below hbl CX.out.lt)
    replace CY := Lib.hid (CY.out.below hbl CY.out.lt)
    replace VS := Lib.hid (VS.out.below hbl VS.out.lt)
    replace VD := Lib.hid (VD.out.below hbl VD.out.lt)
    replace VP := Lib.hid (VP.out.below hbl VP.out.lt)
    replace VQ := Lib.hid (VQ.out.below hbl VQ.out.lt)
    replace VN := Lib.hid (VN.out.below hbl VN.out.lt)
    replace HW := Lib.hid (bel_trans HW.out hbl); clear hbl
    clear CX0 CX1 CX2 CY0 CY1 CY2 VS0 VS1 VS2 VD0 VD1 VD2 VP0 VP1 VP2 VQ0 VQ1 VQ2 VN0 VN1 VN2
    have CX0 : w6.cell? ⟨w.heap.size, 0, none⟩ = some (.bool s) := CX.out.cell 0
    have CX1 : w6.cell? ⟨w.heap.size, 1, none⟩ = some (.slice A xs.length c) := CX.out.cell 1
    have CX2 : w6.cell? ⟨w.heap.size, 2, none⟩ = some (.slice B ys.length d) := CX.out.cell 2
    have CY0 : w6.cell? ⟨w.heap.size + 1, 0, none⟩ = some (.bool s') := CY.out.cell 0
    have CY1 : w6.cell? ⟨w.heap.size + 1, 1, none⟩ = some (.slice A' xs'.length c') := CY.out.cell 1
    have CY2 : w6.cell? ⟨w.heap.size + 1, 2, none⟩ = some (.slice B' ys'.length d') := CY.out.cell 2
    have VS0 : w6.cell? ⟨w1.heap.size, 0, none⟩ = some (.bool false) := VS.out.cell 0
    have VS1 : w6.cell? ⟨w1.heap.size, 1, none⟩ = some (.slice As 0 cs) := VS.out.cell 1
    have VS2 : w6.cell? ⟨w1.heap.size, 2, none⟩ = some (.slice At 0 ct) := VS.out.cell 2
    have VD0 : w6.cell? ⟨w2.heap.size, 0, none⟩ = some (.bool false) := VD.out.cell 0
    have VD1 : w6.cell? ⟨w2.heap.size, 1, none⟩ = some (.slice Au 0 cu) := VD.out.cell 1
    have VD2 : w6.cell? ⟨w2.heap.size, 2, none⟩ = some (.slice Av 0 cv) := VD.out.cell 2
    have VP0 : w6.cell? ⟨w3.heap.size, 0, none⟩ = some (.bool false) := VP.out.cell 0
    have VP1 : w6.cell? ⟨w3.heap.size, 1, none⟩ = some (.slice Ap 0 cp) := VP.out.cell 1
    have VP2 : w6.cell? ⟨w3.heap.size, 2, none⟩ = some (.slice Ar 0 cr) := VP.out.cell 2
    have VQ0 : w6.cell? ⟨w4.heap.size, 0, none⟩ = some (.bool false) := VQ.out.cell 0
    have VQ1 : w6.cell? ⟨w4.heap.size, 1, none⟩ = some (.slice Ax 0 cx) := VQ.out.cell 1
    have VQ2 : w6.cell? ⟨w4.heap.size, 2, none⟩ = some (.slice Ay 0 cy) := VQ.out.cell 2
    have VN0 : w6.cell? ⟨w4.heap.size + 1, 0, none⟩ = some (.bool false) := VN.out.cell 0
    have VN1 : w6.cell? ⟨w4.heap.size + 1, 1, none⟩ = some (.slice none 0 0) := VN.out.cell 1
    have VN2 : w6.cell? ⟨w4.heap.size + 1, 2, none⟩ = some (.slice none 0 0) := VN.out.cell 2
    go_wp2_with fail
    refine (same_none As At cs ct _).mono ?_
    rintro e w7 ⟨rfl, hbl⟩
    replace R1 := Lib.hid (R1.out.below hbl)
    replace R2 := Lib.hid (R2.out.below hbl)
    replace R3 := Lib.hid (R3.out.below hbl)
    replace R4 := Lib.hid (R4.out.below hbl)
    replace Rs := Lib.hid (Rs.out.below hbl)
    replace HNs := Lib.hid (HNs.out.below hbl)
    replace Rt := Lib.hid (Rt.out.below hbl)
    replace HNt := Lib.hid (HNt.out.below hbl)
    replace Ru := Lib.hid (Ru.out.below hbl)
    replace HNu := Lib.hid (HNu.out.below hbl)
    replace Rv := Lib.hid (Rv.out.below hbl)
    replace HNv := Lib.hid (HNv.out.below hbl)
    replace Rp := Lib.hid (Rp.out.below hbl)
    replace HNp := Lib.hid (HNp.out.below hbl)
    replace Rr := Lib.hid (Rr.out.below hbl)
    replace HNr := Lib.hid (HNr.out.below hbl)
    replace Rx := Lib.hid (Rx.out.below hbl)
    replace HNx := Lib.hid (HNx.out.below hbl)
    replace Ry := Lib.hid (Ry.out.below hbl)
    replace HNy := Lib.hid (HNy.out.below hbl)
    replace CX := Lib.hid (CX.out.below hbl CX.out.lt)
    replace CY := Lib.hid (CY.out.below hbl CY.out.lt)
    replace VS := Lib.hid (VS.out.below hbl VS.out.lt)
    replace VD := Lib.hid (VD.out.below hbl VD.out.lt)
    replace VP := Lib.hid (VP.out.below hbl VP.out.lt)
    replace VQ := Lib.hid (VQ.out.below hbl VQ.out.lt)
    replace VN := Lib.hid (VN.out.below hbl VN.out.lt)
    replace HW := Lib.hid (bel_trans HW.out hbl); clear hbl
    clear CX0 CX1 CX2 CY0 CY1 CY2 VS0 VS1 VS2 VD0 VD1 VD2 VP0 VP1 VP2 VQ0 VQ1 VQ2 VN0 VN1 VN2
    have CX0 : w7.cell? ⟨w.heap.size, 0, none⟩ = some (.bool s) := CX.out.cell 0
    have CX1 : w7.cell? ⟨w.heap.size, 1, none⟩ = some (.slice A xs.length c) := CX.out.cell 1
    have CX2 : w7.cell? ⟨w.heap.size, 2, none⟩ = some (.slice B ys.length d) := CX.out.cell 2
    have CY0 : w7.cell? ⟨w.heap.size + 1, 0, none⟩ = some (.bool s') := CY.out.cell 0
    have CY1 : w7.cell? ⟨w.heap.size + 1, 1, none⟩ = some (.slice A' xs'.length c') := CY.out.cell 1
    have CY2 : w7.cell? ⟨w.heap.size + 1, 2, none⟩ = some (.slice B' ys'.length d') := CY.out.cell 2
    have VS0 : w7.cell? ⟨w1.heap.size, 0, none⟩ = some (.bool false) := VS.out.cell 0
    have VS1 : w7.cell? ⟨w1.heap.size, 1, none⟩ = some (.slice As 0 cs) := VS.out.cell 1
    have VS2 : w7.cell? ⟨w1.heap.size, 2, none⟩ = some (.slice At 0 ct) := VS.out.cell 2
    have VD0 : w7.cell? ⟨w2.heap.size, 0, none⟩ = some (.bool false) := VD.out.cell 0
    have VD1 : w7.cell? ⟨w2.heap.size, 1, none⟩ = some (.slice Au 0 cu) := VD.out.cell 1
    have VD2 : w7.cell? ⟨w2.heap.size, 2, none⟩ = some (.slice Av 0 cv) := VD.out.cell 2
    have VP0 : w7.cell? ⟨w3.heap.size, 0, none⟩ = some (.bool false) := VP.out.cell 0
    have VP1 : w7.cell? ⟨w3.heap.size, 1, none⟩ = some (.slice Ap 0 cp) := VP.out.cell 1
    have VP2 : w7.cell? ⟨w3.heap.size, 2, none⟩ = some (.slice Ar 0 cr) := VP.out.cell 2
    have VQ0 : w7.cell? ⟨w4.heap.size, 0, none⟩ = some (.bool false) := VQ.out.cell 0
    have VQ1 : w7.cell? ⟨w4.heap.size, 1, none⟩ = some (.slice Ax 0 cx) := VQ.out.cell 1
    have VQ2 : w7.cell? ⟨w4.heap.size, 2, none⟩ = some (.slice Ay 0 cy) := VQ.out.cell 2
    have VN0 : w7.cell? ⟨w4.heap.size + 1, 0, none⟩ = some (.bool false) := VN.out.cell 0
    have VN1 : w7.cell? ⟨w4.heap.size + 1, 1, none⟩ = some (.slice none 0 0) := VN.out.cell 1
    have VN2 : w7.cell? ⟨w4.heap.size + 1, 2, none⟩ = some (.slice none 0 0) := VN.out.cell 2
    go_wp2_with fail
    refine (same_none Au Av cu cv _).mono ?_
    rintro e w8 ⟨rfl, hbl⟩
    replace R1 := Lib.hid (R1.out.below hbl)
    replace R2 := Lib.hid (R2.out.below hbl)
    replace R3 := Lib.hid (R3.out.below hbl)
    replace R4 := Lib.hid (R4.out.below hbl)
    replace Rs := Lib.hid (Rs.out.below hbl)
    replace HNs := Lib.hid (HNs.out.below hbl)
    replace Rt := Lib.hid (Rt.out.below hbl)
    replace HNt := Lib.hid (HNt.out.below hbl)
    replace Ru := Lib.hid (Ru.out.below hbl)
    replace HNu := Lib.hid (HNu.out.below hbl)
    replace Rv := Lib.hid (Rv.out.below hbl)
    replace HNv := Lib.hid (HNv.out.below hbl)
    replace Rp := Lib.hid (Rp.out.below hbl)
    replace HNp := Lib.hid (HNp.out.below hbl)
    replace Rr := Lib.hid (Rr.out.below hbl)
    replace HNr := Lib.hid (HNr.out.below hbl)
    replace Rx := Lib.hid (Rx.out.below hbl)
    replace HNx := Lib.hid (HNx.out.below hbl)
    replace Ry := Lib.hid (Ry.out.below hbl)
    replace HNy := Lib.hid (HNy.out.below hbl)
    replace CX := Lib.hid (CX.out.below hbl CX.out.lt)
    replace CY := Lib.hid (CY.out.below hbl CY.out.lt)
    replace VS := Lib.hid (VS.out.below hbl VS.out.lt)
    replace VD := Lib.hid (VD.out.below hbl VD.out.lt)
    replace VP := Lib.hid (VP.out.below hbl VP.out.lt)
    replace VQ := Lib.hid (VQ.out.below hbl VQ.out.lt)
    replace VN := Lib.hid (VN.out.below hbl VN.out.lt)
    replace HW := Lib.hid (bel_trans HW.out hbl); clear hbl
    clear CX0 CX1 CX2 CY0 CY1 CY2 VS0 VS1 VS2 VD0 VD1 VD2 VP0 VP1 VP2 VQ0 VQ1 VQ2 VN0 VN1 VN2
    have CX0 : w8.cell? ⟨w.heap.size, 0, none⟩ = some (.bool s) := CX.out.cell 0
    have CX1 : w8.cell? ⟨w.heap.size, 1, none⟩ = some (.slice A xs.length c) := CX.out.cell 1
    have CX2 : w8.cell? ⟨w.heap.size, 2, none⟩ = some (.slice B ys.length d) := CX.out.cell 2
    have CY0 : w8.cell? ⟨w.heap.size + 1, 0, none⟩ = some (.bool s') := CY.out.cell 0
    have CY1 : w8.cell? ⟨w.heap.size + 1, 1, none⟩ = some (.slice A' xs'.length c') := CY.out.cell 1
    have CY2 : w8.cell? ⟨w.heap.size + 1, 2, none⟩ = some (.slice B' ys'.length d') := CY.out.cell 2
    have VS0 : w8.cell? ⟨w1.heap.size, 0, none⟩ = some (.bool false) := VS.out.cell 0
    have VS1 : w8.cell? ⟨w1.heap.size, 1, none⟩ = some (.slice As 0 cs) := VS.out.cell 1
    have VS2 : w8.cell? ⟨w1.heap.size, 2, none⟩ = some (.slice At 0 ct) := VS.out.cell 2
    have VD0 : w8.cell? ⟨w2.heap.size, 0, none⟩ = some (.bool false) := VD.out.cell 0
    have VD1 : w8.cell? ⟨w2.heap.size, 1, none⟩ = some (.slice Au 0 cu) := VD.out.cell 1
    have VD2 : w8.cell? ⟨w2.heap.size, 2, none⟩ = some (.slice Av 0 cv) := VD.out.cell 2
    have VP0 : w8.cell? ⟨w3.heap.size, 0, none⟩ = some (.bool false) := VP.out.cell 0
    have VP1 : w8.cell? ⟨w3.heap.size, 1, none⟩ = some (.slice Ap 0 cp) := VP.out.cell 1
    have VP2 : w8.cell? ⟨w3.heap.size, 2, none⟩ = some (.slice Ar 0 cr) := VP.out.cell 2
    have VQ0 : w8.cell? ⟨w4.heap.size, 0, none⟩ = some (.bool false) := VQ.out.cell 0
    have VQ1 : w8.cell? ⟨w4.heap.size, 1, none⟩ = some (.slice Ax 0 cx) := VQ.out.cell 1
    have VQ2 : w8.cell? ⟨w4.heap.size, 2, none⟩ = some (.slice Ay 0 cy) := VQ.out.cell 2
    have VN0 : w8.cell? ⟨w4.heap.size + 1, 0, none⟩ = some (.bool false) := VN.out.cell 0
    have VN1 : w8.cell? ⟨w4.heap.size + 1, 1, none⟩ = some (.slice none 0 0) := VN.out.cell 1
    have VN2 : w8.cell? ⟨w4.heap.size + 1, 2, none⟩ = some (.slice none 0 0) := VN.out.cell 2
    go_wp2_with fail
    refine (same_none Ap Ar cp cr _).mono ?_
    rintro e w9 ⟨rfl, hbl⟩
    replace R1 := Lib.hid (R1.out.below hbl)
    replace R2 := Lib.hid (R2.out.below hbl)
    replace R3 := Lib.hid (R3.out.below hbl)
    replace R4 := Lib.hid (R4.out.below hbl)
    replace Rs := Lib.hid (Rs.out.below hbl)
    replace HNs := Lib.hid (HNs.out.below hbl)
    replace Rt := Lib.hid (Rt.out.below hbl)
    replace HNt := Lib.hid (HNt.out.below hbl)
    replace Ru := Lib.hid (Ru.out.below hbl)
    replace HNu := Lib.hid (HNu.out.below hbl)
    replace Rv := Lib.hid (Rv.out.below hbl)
    replace HNv := Lib.hid (HNv.out.below hbl)
    replace Rp := Lib.hid (Rp.out.below hbl)
    replace HNp := Lib.hid (HNp.out.below hbl)
    replace Rr := Lib.hid (Rr.out.below hbl)
    replace HNr := Lib.hid (HNr.out.below hbl)
    replace Rx := Lib.hid (Rx.out.below hbl)
    replace HNx := Lib.hid (HNx.out.below hbl)
    replace Ry := Lib.hid (Ry.out.below hbl)
    replace HNy := Lib.hid (HNy.out.below hbl)
    replace CX := Lib.hid (CX.out.below hbl CX.out.lt)
    replace CY := Lib.hid (CY.out.below hbl CY.out.lt)
    replace VS := Lib.hid (VS.out.below hbl VS.out.lt)
    replace VD := Lib.hid (VD.out.below hbl VD.out.lt)
    replace VP := Lib.hid (VP.out.below hbl VP.out.lt)
    replace VQ := Lib.hid (VQ.out.below hbl VQ.out.lt)
    replace VN := Lib.hid (VN.out.below hbl VN.out.lt)
    replace HW := Lib.hid (bel_trans HW.out hbl); clear hbl
    clear CX0 CX1 CX2 CY0 CY1 CY2 VS0 VS1 VS2 VD0 VD1 VD2 VP0 VP1 VP2 VQ0 VQ1 VQ2 VN0 VN1 VN2
    have CX0 : w9.cell? ⟨w.heap.size, 0, none⟩ = some (.bool s) := CX.out.cell 0
    have CX1 : w9.cell? ⟨w.heap.size, 1, none⟩ = some (.slice A xs.length c) := CX.out.cell 1
    have CX2 : w9.cell? ⟨w.heap.size, 2, none⟩ = some (.slice B ys.length d) := CX.out.cell 2
    have CY0 : w9.cell? ⟨w.heap.size + 1, 0, none⟩ = some (.bool s') := CY.out.cell 0
    have CY1 : w9.cell? ⟨w.heap.size + 1, 1, none⟩ = some (.slice A' xs'.length c') := CY.out.cell 1
    have CY2 : w9.cell? ⟨w.heap.size + 1, 2, none⟩ = some (.slice B' ys'.length d') := CY.out.cell 2
    have VS0 : w9.cell? ⟨w1.heap.size, 0, none⟩ = some (.bool false) := VS.out.cell 0
    have VS1 : w9.cell? ⟨w1.heap.size, 1, none⟩ = some (.slice As 0 cs) := VS.out.cell 1
    have VS2 : w9.cell? ⟨w1.heap.size, 2, none⟩ = some (.slice At 0 ct) := VS.out.cell 2
    have VD0 : w9.cell? ⟨w2.heap.size, 0, none⟩ = some (.bool false) := VD.out.cell 0
    have VD1 : w9.cell? ⟨w2.heap.size, 1, none⟩ = some (.slice Au 0 cu) := VD.out.cell 1
    have VD2 : w9.cell? ⟨w2.heap.size, 2, none⟩ = some (.slice Av 0 cv) := VD.out.cell 2
    have VP0 : w9.cell? ⟨w3.heap.size, 0, none⟩ = some (.bool false) := VP.out.cell 0
    have VP1 : w9.cell? ⟨w3.heap.size, 1, none⟩ = some (.slice Ap 0 cp) := VP.out.cell 1
    have VP2 : w9.cell? ⟨w3.heap.size, 2, none⟩ = some (.slice Ar 0 cr) := VP.out.cell 2
    have VQ0 : w9.cell? ⟨w4.heap.size, 0, none⟩ = some (.bool false) := VQ.out.cell 0
    have VQ1 : w9.cell? ⟨w4.heap.size, 1, none⟩ = some (.slice Ax 0 cx) := VQ.out.cell 1
    have VQ2 : w9.cell? ⟨w4.heap.size, 2, none⟩ = some (.slice Ay 0 cy) := VQ.out.cell 2
    have VN0 : w9.cell? ⟨w4.heap.size + 1, 0, none⟩ = some (.bool false) := VN.out.cell 0
    have VN1 : w9.cell? ⟨w4.heap.size + 1, 1, none⟩ = some (.slice none 0 0) := VN.out.cell 1
    have VN2 : w9.cell? ⟨w4.heap.size + 1, 2, none⟩ = some (.slice none 0 0) := VN.out.cell 2
    go_wp2_with fail
    refine (same_none Ax Ay cx cy _).mono ?_
    rintro e w10 ⟨rfl, hbl⟩
    replace R1 := Lib.hid (R1.out.below hbl)
    replace R2 := Lib.hid (R2.out.below hbl)
    replace R3 := Lib.hid (R3.out.below hbl)
    replace R4 := Lib.hid (R4.out.below hbl)
    replace Rs := Lib.hid (Rs.out.below hbl)
    replace HNs := Lib.hid (HNs.out.below hbl)
    replace Rt := Lib.hid (Rt.out.below hbl)
    replace HNt := Lib.hid (HNt.out.below hbl)
    replace Ru := Lib.hid (Ru.out.below hbl)
    replace HNu := Lib.hid (HNu.out.below hbl)
    replace Rv := Lib.hid (Rv.out.below hbl)
    replace HNv := Lib.hid (HNv.out.below hbl)
    replace Rp := Lib.hid (Rp.out.below hbl)
    replace HNp := Lib.hid (HNp.out.below hbl)
    replace Rr := Lib.hid (Rr.out.below hbl)
    replace HNr := Lib.hid (HNr.out.below hbl)
    replace Rx := Lib.hid (Rx.out.below hbl)
    replace HNx := Lib.hid (HNx.out.below hbl)
    replace Ry := Lib.hid (Ry.out.below hbl)
    replace HNy := Lib.hid (HNy.out.below hbl)
    replace CX := Lib.hid (CX.out.below hbl CX.out.lt)
    replace CY := Lib.hid (CY.out.below hbl CY.out.lt)
    replace VS := Lib.hid (VS.out.below hbl VS.out.lt)
    replace VD := Lib.hid (VD.out.below hbl VD.out.lt)
    replace VP := Lib.hid (VP.out.below hbl VP.out.lt)
    replace VQ := Lib.hid (VQ.out.below hbl VQ.out.lt)
    replace VN := Lib.hid (VN.out.below hbl VN.out.lt)
    replace HW := Lib.hid (bel_trans HW.out hbl); clear hbl
    clear CX0 CX1 CX2 CY0 CY1 CY2 VS0 VS1 VS2 VD0 VD1 VD2 VP0 VP1 VP2 VQ0 VQ1 VQ2 VN0 VN1 VN2
    have CX0 : w10.cell? ⟨w.heap.size, 0, none⟩ = some (.bool s) := CX.out.cell 0
    have CX1 : w10.cell? ⟨w.heap.size, 1, none⟩ = some (.slice A xs.length c) := CX.out.cell 1
    have CX2 : w10.cell? ⟨w.heap.size, 2, none⟩ = some (.slice B ys.length d) := CX.out.cell 2
    have CY0 : w10.cell? ⟨w.heap.size + 1, 0, none⟩ = some (.bool s') := CY.out.cell 0
    have CY1 : w10.cell? ⟨w.heap.size + 1, 1, none⟩ = some (.slice A' xs'.length c') := CY.out.cell 1
    have CY2 : w10.cell? ⟨w.heap.size + 1, 2, none⟩ = some (.slice B' ys'.length d') := CY.out.cell 2
    have VS0 : w10.cell? ⟨w1.heap.size, 0, none⟩ = some (.bool false) := VS.out.cell 0
    have VS1 : w10.cell? ⟨w1.heap.size, 1, none⟩ = some (.slice As 0 cs) := VS.out.cell 1
    have VS2 : w10.cell? ⟨w1.heap.size, 2, none⟩ = some (.slice At 0 ct) := VS.out.cell 2
    have VD0 : w10.cell? ⟨w2.heap.size, 0, none⟩ = some (.bool false) := VD.out.cell 0
    have VD1 : w10.cell? ⟨w2.heap.size, 1, none⟩ = some (.slice Au 0 cu) := VD.out.cell 1
    have VD2 : w10.cell? ⟨w2.heap.size, 2, none⟩ = some (.slice Av 0 cv) := VD.out.cell 2
    have VP0 : w10.cell? ⟨w3.heap.size, 0, none⟩ = some (.bool false) := VP.out.cell 0
    have VP1 : w10.cell? ⟨w3.heap.size, 1, none⟩ = some (.slice Ap 0 cp) := VP.out.cell 1
    have VP2 : w10.cell? ⟨w3.heap.size, 2, none⟩ = some (.slice Ar 0 cr) := VP.out.cell 2
    have VQ0 : w10.cell? ⟨w4.heap.size, 0, none⟩ = some (.bool false) := VQ.out.cell 0
    have VQ1 : w10.cell? ⟨w4.heap.size, 1, none⟩ = some (.slice Ax 0 cx) := VQ.out.cell 1
    have VQ2 : w10.cell? ⟨w4.heap.size, 2, none⟩ = some (.slice Ay 0 cy) := VQ.out.cell 2
    have VN0 : w10.cell? ⟨w4.heap.size + 1, 0, none⟩ = some (.bool false) := VN.out.cell 0
    have VN1 : w10.cell? ⟨w4.heap.size + 1, 1, none⟩ = some (.slice none 0 0) := VN.out.cell 1
    have VN2 : w10.cell? ⟨w4.heap.size + 1, 2, none⟩ = some (.slice none 0 0) := VN.out.cell 2
    go_wp2
    go_ret
    exact ⟨rfl, HW.out⟩

set_option maxRecDepth 100000 in
set_option maxHeartbeats 1000000 in
theorem reckons_wb (s s' : Bool) (A B A' B' : Option Addr) (c d c' d' : Nat) (x0 y0 x0' y0' : List Nat) (xs ys xs' ys' : List Nat) (w : World) (h1 : RdL w A x0) (h2 : RdL w B y0) (h3 : RdL w A' x0') (h4 : RdL w B' y0') (k1 : x0.length ≤ c) (k2 : y0.length ≤ d) (k3 : x0'.length ≤ c') (k4 : y0'.length ≤ d') (m1 : Lim x0) (m2 : Lim y0) (m3 : Lim x0') (m4 : Lim y0') (hr : rightB s xs ys = true) (hrb : rightB s' xs' ys' = false) (e1 : few x0 = xs) (e2 : few y0 = ys) (e3 : few x0' = xs') (e4 : few y0' = ys') :
    Calls Try.prog 5 #[.agg #[.bool s, .slice A x0.length c, .slice B y0.length d], .agg #[.bool s', .slice A' x0'.length c', .slice B' y0'.length d']] w (RetT w) := by
  have HR := Lib.hid hr; have HRB := Lib.hid hrb
  have HRR := Lib.hid (show (rightB s xs ys && rightB s' xs' ys') = false by rw [hrb, Bool.and_false]); clear hr hrb
  have R1 := Lib.hid (show RdL w A xs by rw [← e1]; exact h1.take 18); clear h1
  have R2 := Lib.hid (show RdL w B ys by rw [← e2]; exact h2.take 18); clear h2
  have R3 := Lib.hid (show RdL w A' xs' by rw [← e3]; exact h3.take 18); clear h3
  have R4 := Lib.hid (show RdL w B' ys' by rw [← e4]; exact h4.take 18); clear h4
  have L18 := Lib.hid (show xs.length ≤ 18 ∧ ys.length ≤ 18 ∧ xs'.length ≤ 18 ∧ ys'.length ≤ 18 by rw [← e1, ← e2, ← e3, ← e4]; exact ⟨few_le _, few_le _, few_le _, few_le _⟩)
  have KC := Lib.hid (show xs.length ≤ c ∧ ys.length ≤ d ∧ xs'.length ≤ c' ∧ ys'.length ≤ d' by rw [← e1, ← e2, ← e3, ← e4]; exact ⟨Nat.le_trans (few_short _) k1, Nat.le_trans (few_short _) k2, Nat.le_trans (few_short _) k3, Nat.le_trans (few_short _) k4⟩)
  have M := Lib.hid (show Lim xs ∧ Lim ys ∧ Lim xs' ∧ Lim ys' by rw [← e1, ← e2, ← e3, ← e4]; exact ⟨few_lim m1, few_lim m2, few_lim m3, few_lim m4⟩); clear m1 m2 m3 m4
  have F := Lib.hid (And.intro (And.intro k1 (And.intro k2 (And.intro e1 e2))) (And.intro k3 (And.intro k4 (And.intro e3 e4)))); clear k1 k2 k3 k4 e1 e2 e3 e4
  obtain ⟨wa, hwa⟩ : ∃ wa, wa = (w.alloc (.cells #[.bool s, .slice A x0.length c, .slice B y0.length d] 25)).alloc (.cells #[.bool s', .slice A' x0'.length c', .slice B' y0'.length d'] 25) := ⟨_, rfl⟩
  have hbl : Below w.heap.size w wa := by rw [hwa]; exact bel_alloc (bel_alloc (bel_refl _) _) _
  have CX : Blk wa (w.heap.size) 25 #[.bool s, .slice A x0.length c, .slice B y0.length d] := by
    have hz := Blk.new (w) 25 #[.bool s, .slice A x0.length c, .slice B y0.length d]
    rw [hwa]
    exact (hz.alloc _)
  have CY : Blk wa (w.heap.size + 1) 25 #[.bool s', .slice A' x0'.length c', .slice B' y0'.length d'] := by
    have hz := Blk.new (w.alloc (.cells #[.bool s, .slice A x0.length c, .slice B y0.length d] 25)) 25 #[.bool s', .slice A' x0'.length c', .slice B' y0'.length d']
    rw [World.size_alloc] at hz
    rw [hwa]
    exact hz
  replace R1 := Lib.hid (R1.out.below hbl)
  replace R2 := Lib.hid (R2.out.below hbl)
  replace R3 := Lib.hid (R3.out.below hbl)
  replace R4 := Lib.hid (R4.out.below hbl)
  have HW := Lib.hid hbl; clear hbl
  replace CX := Lib.hid CX
  replace CY := Lib.hid CY
  go_enter Try.func5, Try.ntmps5
  go_wp2_with fail
  rw [← hwa]
  clear hwa
  refine wp_region_typed 4 (TOf [VIs (.agg #[.bool s, .slice A x0.length c, .slice B y0.length d]),
      VIs (.agg #[.bool s, .slice A xs.length c, .slice B ys.length d]),
      VIs (.agg #[.bool s', .slice A' x0'.length c', .slice B' y0'.length d']),
      VIs (.agg #[.bool s', .slice A' xs'.length c', .slice B' ys'.length d'])]) (by kernel_rfl) (by kernel_rfl) (by kernel_rfl) (LiftAll.at_ (.cons (VIs.lift _) (.cons (VIs.lift _) (.cons (VIs.lift _) (.cons (VIs.lift _) .nil))))) (steps_all (steps_cons ?_ (steps_cons ?_ (steps_cons ?_ (steps_cons ?_ steps_zero))))) ?fin
  · intro a0 w9 K9 hF hB hK hC
    have b2 := hF.base (k := 2) (v := .pointer (some ⟨w.heap.size, 0, none⟩)) (by kernel_rfl) rfl
    have x90 : w9.cell? ⟨w.heap.size, 0, none⟩ = some (.bool s) := (CX.out.below hB CX.out.lt).cell 0
    have x91 : w9.cell? ⟨w.heap.size, 1, none⟩ = some (.slice A x0.length c) := (CX.out.below hB CX.out.lt).cell 1
    have x92 : w9.cell? ⟨w.heap.size, 2, none⟩ = some (.slice B y0.length d) := (CX.out.below hB CX.out.lt).cell 2
    clear hF hB hK
    go_simp
    exact hC _ _ (bel_refl _) fun _ _ => rfl
  · intro a0 w9 K9 hF hB hK hC
    obtain ⟨v16, e16, z16⟩ := dep hK 0 (g := .data) (j := 0) (k := 16) rfl rfl rfl
    have z16 : v16 = .agg #[.bool s, .slice A x0.length c, .slice B y0.length d] := z16
    subst z16
    have HB9 := Lib.hid hB
    clear hF hB hK
    go_simp
    refine (fewQ_is s A B c d x0 y0 xs ys _ F.out.1.1 F.out.1.2.1 F.out.1.2.2.1 F.out.1.2.2.2).mono ?_
    rintro e w7 ⟨rfl, hbl⟩
    exact hC _ _ hbl fun _ _ => rfl
  · intro a0 w9 K9 hF hB hK hC
    have b3 := hF.base (k := 3) (v := .pointer (some ⟨w.heap.size + 1, 0, none⟩)) (by kernel_rfl) rfl
    have x90 : w9.cell? ⟨w.heap.size + 1, 0, none⟩ = some (.bool s') := (CY.out.below hB CY.out.lt).cell 0
    have x91 : w9.cell? ⟨w.heap.size + 1, 1, none⟩ = some (.slice A' x0'.length c') := (CY.out.below hB CY.out.lt).cell 1
    have x92 : w9.cell? ⟨w.heap.size + 1, 2, none⟩ = some (.slice B' y0'.length d') := (CY.out.below hB CY.out.lt).cell 2
    clear hF hB hK
    go_simp
    exact hC _ _ (bel_refl _) fun _ _ => rfl
  · intro a0 w9 K9 hF hB hK hC
    obtain ⟨v18, e18, z18⟩ := dep hK 0 (g := .data) (j := 2) (k := 18) rfl rfl rfl
    have z18 : v18 = .agg #[.bool s', .slice A' x0'.length c', .slice B' y0'.length d'] := z18
    subst z18
    have HB9 := Lib.hid hB
    clear hF hB hK
    go_simp
    refine (fewQ_is s' A' B' c' d' x0' y0' xs' ys' _ F.out.2.1 F.out.2.2.1 F.out.2.2.2.1 F.out.2.2.2.2).mono ?_
    rintro e w7 ⟨rfl, hbl⟩
    exact hC _ _ hbl fun _ _ => rfl
  case fin =>
    intro a0 w9 hF hB hK
    have b2 := hF.base (k := 2) (v := .pointer (some ⟨w.heap.size, 0, none⟩)) (by kernel_rfl) rfl
    have b3 := hF.base (k := 3) (v := .pointer (some ⟨w.heap.size + 1, 0, none⟩)) (by kernel_rfl) rfl
    have hsz := hF.size
    have hdf := hF.defers
    clear hF
    obtain ⟨v17, e17, z17⟩ := known hK 1 (k := 17) (by decide) rfl
    have z17 : v17 = .agg #[.bool s, .slice A xs.length c, .slice B ys.length d] := z17
    subst z17
    obtain ⟨v19, e19, z19⟩ := known hK 3 (k := 19) (by decide) rfl
    have z19 : v19 = .agg #[.bool s', .slice A' xs'.length c', .slice B' ys'.length d'] := z19
    subst z19
    clear hK
    obtain ⟨⟨l0⟩, df⟩ := a0
    have hs0 : l0.length = 140 := hsz
    clear hsz
    replace hdf : df = _ := hdf
    subst hdf
    obtain ⟨u, rfl⟩ := lits_140 hs0
    clear hs0
    have q2 : u 2 = _ := Option.some.inj b2
    clear b2
    have q3 : u 3 = _ := Option.some.inj b3
    clear b3
    have q17 : u 17 = _ := Option.some.inj e17
    clear e17
    have q19 : u 19 = _ := Option.some.inj e19
    clear e19
    rw [q2, q3, q17, q19]
    clear q2 q3 q17 q19
    have hbl := hB; clear hB
    replace R1 := Lib.hid (R1.out.below hbl)
    replace R2 := Lib.hid (R2.out.below hbl)
    replace R3 := Lib.hid (R3.out.below hbl)
    replace R4 := Lib.hid (R4.out.below hbl)
    replace CX := Lib.hid (CX.out.below hbl CX.out.lt)
    replace CY := Lib.hid (CY.out.below hbl CY.out.lt)
    replace HW := Lib.hid (bel_trans HW.out hbl); clear hbl
    simp only [List.drop_succ_cons, List.drop_zero]
    have pd0 := CX.out.cell 0
    have pf0 := CX.out.frozen 0
    have pd1 := CX.out.cell 1
    have pf1 := CX.out.frozen 1
    have pd2 := CX.out.cell 2
    have pf2 := CX.out.frozen 2
    have qd0 := CY.out.cell 0
    have qf0 := CY.out.frozen 0
    have qd1 := CY.out.cell 1
    have qf1 := CY.out.frozen 1
    have qd2 := CY.out.cell 2
    have qf2 := CY.out.frozen 2
    go_upto_region 2 with fail
    clear pd0 pf0 pd1 pf1 pd2 pf2 qd0 qf0 qd1 qf1 qd2 qf2
    obtain ⟨wf, hwf⟩ : ∃ wf, wf = ((((((w9.setCell ⟨w.heap.size, 0, none⟩ (.bool s)).setCell ⟨w.heap.size, 1, none⟩ (.slice A xs.length c)).setCell ⟨w.heap.size, 2, none⟩ (.slice B ys.length d)).setCell ⟨w.heap.size + 1, 0, none⟩ (.bool s')).setCell ⟨w.heap.size + 1, 1, none⟩ (.slice A' xs'.length c')).setCell ⟨w.heap.size + 1, 2, none⟩ (.slice B' ys'.length d')) := ⟨_, rfl⟩
    rw [← hwf]
    replace R1 := Lib.hid (show RdL wf _ _ by rw [hwf]; exact RdL.set3 ((((CY.out).far (p := ⟨w.heap.size, 0, none⟩) (by simp) _).far (p := ⟨w.heap.size, 1, none⟩) (by simp) _).far (p := ⟨w.heap.size, 2, none⟩) (by simp) _) (RdL.set3 (CX.out) (R1.out) _ _ _) _ _ _)
    replace R2 := Lib.hid (show RdL wf _ _ by rw [hwf]; exact RdL.set3 ((((CY.out).far (p := ⟨w.heap.size, 0, none⟩) (by simp) _).far (p := ⟨w.heap.size, 1, none⟩) (by simp) _).far (p := ⟨w.heap.size, 2, none⟩) (by simp) _) (RdL.set3 (CX.out) (R2.out) _ _ _) _ _ _)
    replace R3 := Lib.hid (show RdL wf _ _ by rw [hwf]; exact RdL.set3 ((((CY.out).far (p := ⟨w.heap.size, 0, none⟩) (by simp) _).far (p := ⟨w.heap.size, 1, none⟩) (by simp) _).far (p := ⟨w.heap.size, 2, none⟩) (by simp) _) (RdL.set3 (CX.out) (R3.out) _ _ _) _ _ _)
    replace R4 := Lib.hid (show RdL wf _ _ by rw [hwf]; exact RdL.set3 ((((CY.out).far (p := ⟨w.heap.size, 0, none⟩) (by simp) _).far (p := ⟨w.heap.size, 1, none⟩) (by simp) _).far (p := ⟨w.heap.size, 2, none⟩) (by simp) _) (RdL.set3 (CX.out) (R4.out) _ _ _) _ _ _)
    have CX_ := Lib.hid (show Blk wf (w.heap.size) 25 #[.bool s, .slice A xs.length c, .slice B ys.length d] by rw [hwf]; exact ((((((CX.out).put 0 (.bool s)).put 1 (.slice A xs.length c)).put 2 (.slice B ys.length d)).far (p := ⟨w.heap.size + 1, 0, none⟩) (by simp) _).far (p := ⟨w.heap.size + 1, 1, none⟩) (by simp) _).far (p := ⟨w.heap.size + 1, 2, none⟩) (by simp) _)
    have CY_ := Lib.hid (show Blk wf (w.heap.size + 1) 25 #[.bool s', .slice A' xs'.length c', .slice B' ys'.length d'] by rw [hwf]; exact ((((((CY.out).far (p := ⟨w.heap.size, 0, none⟩) (by simp) _).far (p := ⟨w.heap.size, 1, none⟩) (by simp) _).far (p := ⟨w.heap.size, 2, none⟩) (by simp) _).put 0 (.bool s')).put 1 (.slice A' xs'.length c')).put 2 (.slice B' ys'.length d'))
    replace CX := CX_; clear CX_
    replace CY := CY_; clear CY_
    replace HW := Lib.hid (show Below w.heap.size w wf by rw [hwf]; exact bel_set (p := ⟨w.heap.size + 1, 2, none⟩) (bel_set (p := ⟨w.heap.size + 1, 1, none⟩) (bel_set (p := ⟨w.heap.size + 1, 0, none⟩) (bel_set (p := ⟨w.heap.size, 2, none⟩) (bel_set (p := ⟨w.heap.size, 1, none⟩) (bel_set (p := ⟨w.heap.size, 0, none⟩) (HW.out) (by show w.heap.size ≤ w.heap.size; omega) _) (by show w.heap.size ≤ w.heap.size; omega) _) (by show w.heap.size ≤ w.heap.size; omega) _) (by show w.heap.size ≤ w.heap.size + 1; omega) _) (by show w.heap.size ≤ w.heap.size + 1; omega) _) (by show w.heap.size ≤ w.heap.size + 1; omega) _)
    clear hwf
    have CX0 : wf.cell? ⟨w.heap.size, 0, none⟩ = some (.bool s) := CX.out.cell 0
    have CX1 : wf.cell? ⟨w.heap.size, 1, none⟩ = some (.slice A xs.length c) := CX.out.cell 1
    have CX2 : wf.cell? ⟨w.heap.size, 2, none⟩ = some (.slice B ys.length d) := CX.out.cell 2
    have CY0 : wf.cell? ⟨w.heap.size + 1, 0, none⟩ = some (.bool s') := CY.out.cell 0
    have CY1 : wf.cell? ⟨w.heap.size + 1, 1, none⟩ = some (.slice A' xs'.length c') := CY.out.cell 1
    have CY2 : wf.cell? ⟨w.heap.size + 1, 2, none⟩ = some (.slice B' ys'.length d') := CY.out.cell 2
    go_wp2_with fail
    refine (add_of s s' A B A' B' _ _ _ _ c d c' d' _ (fun w1 hb => add_bad false s s' A B A' B' c d c' d' xs ys xs' ys' w1 (R1.out.below hb) (R2.out.below hb) (R3.out.below hb) (R4.out.below hb) M.out.1 M.out.2.1 M.out.2.2.1 M.out.2.2.2 L18.out.1 L18.out.2.1 L18.out.2.2.1 L18.out.2.2.2 KC.out.1 KC.out.2.1 KC.out.2.2.1 KC.out.2.2.2 HRR.out)).mono ?_
    rintro e w1 ⟨vs, vt, rfl, hns, hnt, hbl⟩
    replace R1 := Lib.hid (R1.out.below hbl)
    replace R2 := Lib.hid (R2.out.below hbl)
    replace R3 := Lib.hid (R3.out.below hbl)
    replace R4 := Lib.hid (R4.out.below hbl)
    replace CX := Lib.hid (CX.out.below hbl CX.out.lt)
    replace CY := Lib.hid (CY.out.below hbl CY.out.lt)
    replace HW := Lib.hid (bel_trans HW.out hbl); clear hbl
    clear CX0 CX1 CX2 CY0 CY1 CY2
    have CX0 : w1.cell? ⟨w.heap.size, 0, none⟩ = some (.bool s) := CX.out.cell 0
    have CX1 : w1.cell? ⟨w.heap.size, 1, none⟩ = some (.slice A xs.length c) := CX.out.cell 1
    have CX2 : w1.cell? ⟨w.heap.size, 2, none⟩ = some (.slice B ys.length d) := CX.out.cell 2
    have CY0 : w1.cell? ⟨w.heap.size + 1, 0, none⟩ = some (.bool s') := CY.out.cell 0
    have CY1 : w1.cell? ⟨w.heap.size + 1, 1, none⟩ = some (.slice A' xs'.length c') := CY.out.cell 1
    have CY2 : w1.cell? ⟨w.heap.size + 1, 2, none⟩ = some (.slice B' ys'.length d') := CY.out.cell 2
    have HNs := Lib.hid hns; clear hns
    obtain ⟨As, cs, rfl, hcs, hrs⟩ := HNs.out.row
    have Rs := Lib.hid hrs; have HCs := Lib.hid hcs; clear hrs hcs
    have HNt := Lib.hid hnt; clear hnt
    obtain ⟨At, ct, rfl, hct, hrt⟩ := HNt.out.row
    have Rt := Lib.hid hrt; have HCt := Lib.hid hct; clear hrt hct
    rw [show noQ.s = false from rfl, show noQ.n = 0 from rfl, show noQ.d = 0 from rfl, limbs0]
    go_upto_region 3 with fail
    obtain ⟨wk1, hwk1⟩ : ∃ wk1, wk1 = w1.alloc (.cells #[.bool false, .slice As 0 cs, .slice At 0 ct] 25) := ⟨_, rfl⟩
    rw [← hwk1]
    have hbl : Below w1.heap.size w1 wk1 := by rw [hwk1]; exact bel_alloc (bel_refl _) _
    have VS : Blk wk1 (w1.heap.size) 25 #[.bool false, .slice As 0 cs, .slice At 0 ct] := by
      have hz := Blk.new (w1) 25 #[.bool false, .slice As 0 cs, .slice At 0 ct]
      rw [hwk1]
      exact hz
    clear hwk1
    replace R1 := Lib.hid (R1.out.below hbl)
    replace R2 := Lib.hid (R2.out.below hbl)
    replace R3 := Lib.hid (R3.out.below hbl)
    replace R4 := Lib.hid (R4.out.below hbl)
    replace Rs := Lib.hid (Rs.out.below hbl)
    replace HNs := Lib.hid (HNs.out.below hbl)
    replace Rt := Lib.hid (Rt.out.below hbl)
    replace HNt := Lib.hid (HNt.out.below hbl)
    replace CX := Lib.hid (CX.out.below hbl CX.out.lt)
    replace CY := Lib.hid (CY.out.below hbl CY.out.lt)
    replace HW := Lib.hid (bel_trans HW.out hbl); clear hbl
    replace VS := Lib.hid VS
    clear CX0 CX1 CX2 CY0 CY1 CY2
    have CX0 : wk1.cell? ⟨w.heap.size, 0, none⟩ = some (.bool s) := CX.out.cell 0
    have CX1 : wk1.cell? ⟨w.heap.size, 1, none⟩ = some (.slice A xs.length c) := CX.out.cell 1
    have CX2 : wk1.cell? ⟨w.heap.size, 2, none⟩ = some (.slice B ys.length d) := CX.out.cell 2
    have CY0 : wk1.cell? ⟨w.heap.size + 1, 0, none⟩ = some (.bool s') := CY.out.cell 0
    have CY1 : wk1.cell? ⟨w.heap.size + 1, 1, none⟩ = some (.slice A' xs'.length c') := CY.out.cell 1
    have CY2 : wk1.cell? ⟨w.heap.size + 1, 2, none⟩ = some (.slice B' ys'.length d') := CY.out.cell 2
    have VS0 : wk1.cell? ⟨w1.heap.size, 0, none⟩ = some (.bool false) := VS.out.cell 0
    have VS1 : wk1.cell? ⟨w1.heap.size, 1, none⟩ = some (.slice As 0 cs) := VS.out.cell 1
    have VS2 : wk1.cell? ⟨w1.heap.size, 2, none⟩ = some (.slice At 0 ct) := VS.out.cell 2
    go_wp2_with fail
    refine (sub_of s s' A B A' B' _ _ _ _ c d c' d' _ (fun w1 hb => add_bad true s s' A B A' B' c d c' d' xs ys xs' ys' w1 (R1.out.below hb) (R2.out.below hb) (R3.out.below hb) (R4.out.below hb) M.out.1 M.out.2.1 M.out.2.2.1 M.out.2.2.2 L18.out.1 L18.out.2.1 L18.out.2.2.1 L18.out.2.2.2 KC.out.1 KC.out.2.1 KC.out.2.2.1 KC.out.2.2.2 HRR.out)).mono ?_
    rintro e w2 ⟨vu, vv, rfl, hnu, hnv, hbl⟩
    replace R1 := Lib.hid (R1.out.below hbl)
    replace R2 := Lib.hid (R2.out.below hbl)
    replace R3 := Lib.hid (R3.out.below hbl)
    replace R4 := Lib.hid (R4.out.below hbl)
    replace Rs := Lib.hid (Rs.out.below hbl)
    replace HNs := Lib.hid (HNs.out.below hbl)
    replace Rt := Lib.hid (Rt.out.below hbl)
    replace HNt := Lib.hid (HNt.out.below hbl)
    replace CX := Lib.hid (CX.out.below hbl CX.out.lt)
    replace CY := Lib.hid (CY.out.below hbl CY.out.lt)
    replace VS := Lib.hid (VS.out.below hbl VS.out.lt)
    replace HW := Lib.hid (bel_trans HW.out hbl); clear hbl
    clear CX0 CX1 CX2 CY0 CY1 CY2 VS0 VS1 VS2
    have CX0 : w2.cell? ⟨w.heap.size, 0, none⟩ = some (.bool s) := CX.out.cell 0
    have CX1 : w2.cell? ⟨w.heap.size, 1, none⟩ = some (.slice A xs.length c) := CX.out.cell 1
    have CX2 : w2.cell? ⟨w.heap.size, 2, none⟩ = some (.slice B ys.length d) := CX.out.cell 2
    have CY0 : w2.cell? ⟨w.heap.size + 1, 0, none⟩ = some (.bool s') := CY.out.cell 0
    have CY1 : w2.cell? ⟨w.heap.size + 1, 1, none⟩ = some (.slice A' xs'.length c') := CY.out.cell 1
    have CY2 : w2.cell? ⟨w.heap.size + 1, 2, none⟩ = some (.slice B' ys'.length d') := CY.out.cell 2
    have VS0 : w2.cell? ⟨w1.heap.size, 0, none⟩ = some (.bool false) := VS.out.cell 0
    have VS1 : w2.cell? ⟨w1.heap.size, 1, none⟩ = some (.slice As 0 cs) := VS.out.cell 1
    have VS2 : w2.cell? ⟨w1.heap.size, 2, none⟩ = some (.slice At 0 ct) := VS.out.cell 2
    have HNu := Lib.hid hnu; clear hnu
    obtain ⟨Au, cu, rfl, hcu, hru⟩ := HNu.out.row
    have Ru := Lib.hid hru; have HCu := Lib.hid hcu; clear hru hcu
    have HNv := Lib.hid hnv; clear hnv
    obtain ⟨Av, cv, rfl, hcv, hrv⟩ := HNv.out.row
    have Rv := Lib.hid hrv; have HCv := Lib.hid hcv; clear hrv hcv
    rw [show noQ.s = false from rfl, show noQ.n = 0 from rfl, show noQ.d = 0 from rfl, limbs0]
    go_upto_region 4 with fail
    obtain ⟨wk2, hwk2⟩ : ∃ wk2, wk2 = w2.alloc (.cells #[.bool false, .slice Au 0 cu, .slice Av 0 cv] 25) := ⟨_, rfl⟩
    rw [← hwk2]
    have hbl : Below w2.heap.size w2 wk2 := by rw [hwk2]; exact bel_alloc (bel_refl _) _
    have VD : Blk wk2 (w2.heap.size) 25 #[.bool false, .slice Au 0 cu, .slice Av 0 cv] := by
      have hz := Blk.new (w2) 25 #[.bool false, .slice Au 0 cu, .slice Av 0 cv]
      rw [hwk2]
      exact hz
    clear hwk2
    replace R1 := Lib.hid (R1.out.below hbl)
    replace R2 := Lib.hid (R2.out.below hbl)
    replace R3 := Lib.hid (R3.out.below hbl)
    replace R4 := Lib.hid (R4.out.below hbl)
    replace Rs := Lib.hid (Rs.out.below hbl)
    replace HNs := Lib.hid (HNs.out.below hbl)
    replace Rt := Lib.hid (Rt.out.below hbl)
    replace HNt := Lib.hid (HNt.out.below hbl)
    replace Ru := Lib.hid (Ru.out.below hbl)
    replace HNu := Lib.hid (HNu.out.below hbl)
    replace Rv := Lib.hid (Rv.out.below hbl)
    replace HNv := Lib.hid (HNv.out.below hbl)
    replace CX := Lib.hid (CX.out.below hbl CX.out.lt)
    replace CY := Lib.hid (CY.out.below hbl CY.out.lt)
    replace VS := Lib.hid (VS.out.below hbl VS.out.lt)
    replace HW := Lib.hid (bel_trans HW.out hbl); clear hbl
    replace VD := Lib.hid VD
    clear CX0 CX1 CX2 CY0 CY1 CY2 VS0 VS1 VS2
    have CX0 : wk2.cell? ⟨w.heap.size, 0, none⟩ = some (.bool s) := CX.out.cell 0
    have CX1 : wk2.cell? ⟨w.heap.size, 1, none⟩ = some (.slice A xs.length c) := CX.out.cell 1
    have CX2 : wk2.cell? ⟨w.heap.size, 2, none⟩ = some (.slice B ys.length d) := CX.out.cell 2
    have CY0 : wk2.cell? ⟨w.heap.size + 1, 0, none⟩ = some (.bool s') := CY.out.cell 0
    have CY1 : wk2.cell? ⟨w.heap.size + 1, 1, none⟩ = some (.slice A' xs'.length c') := CY.out.cell 1
    have CY2 : wk2.cell? ⟨w.heap.size + 1, 2, none⟩ = some (.slice B' ys'.length d') := CY.out.cell 2
    have VS0 : wk2.cell? ⟨w1.heap.size, 0, none⟩ = some (.bool false) := VS.out.cell 0
    have VS1 : wk2.cell? ⟨w1.heap.size, 1, none⟩ = some (.slice As 0 cs) := VS.out.cell 1
    have VS2 : wk2.cell? ⟨w1.heap.size, 2, none⟩ = some (.slice At 0 ct) := VS.out.cell 2
    have VD0 : wk2.cell? ⟨w2.heap.size, 0, none⟩ = some (.bool false) := VD.out.cell 0
    have VD1 : wk2.cell? ⟨w2.heap.size, 1, none⟩ = some (.slice Au 0 cu) := VD.out.cell 1
    have VD2 : wk2.cell? ⟨w2.heap.size, 2, none⟩ = some (.slice Av 0 cv) := VD.out.cell 2
    go_wp2_with fail
    refine (mulQ_bad s s' A B A' B' c d c' d' xs ys xs' ys' _ R1.out R2.out R3.out R4.out M.out.1 M.out.2.1 M.out.2.2.1 M.out.2.2.2 L18.out.1 L18.out.2.1 L18.out.2.2.1 L18.out.2.2.2 KC.out.1 KC.out.2.1 KC.out.2.2.1 KC.out.2.2.2 HRR.out).mono ?_
    rintro e w3 ⟨vp, vr, rfl, hnp, hnr, hbl⟩
    replace R1 := Lib.hid (R1.out.below hbl)
    replace R2 := Lib.hid (R2.out.below hbl)
    replace R3 := Lib.hid (R3.out.below hbl)
    replace R4 := Lib.hid (R4.out.below hbl)
    replace Rs := Lib.hid (Rs.out.below hbl)
    replace HNs := Lib.hid (HNs.out.below hbl)
    replace Rt := Lib.hid (Rt.out.below hbl)
    replace HNt := Lib.hid (HNt.out.below hbl)
    replace Ru := Lib.hid (Ru.out.below hbl)
    replace HNu := Lib.hid (HNu.out.below hbl)
    replace Rv := Lib.hid (Rv.out.below hbl)
    replace HNv := Lib.hid (HNv.out.below hbl)
    replace CX := Lib.hid (CX.out.below hbl CX.out.lt)
    replace CY := Lib.hid (CY.out.below hbl CY.out.lt)
    replace VS := Lib.hid (VS.out.below hbl VS.out.lt)
    replace VD := Lib.hid (VD.out.below hbl VD.out.lt)
    replace HW := Lib.hid (bel_trans HW.out hbl); clear hbl
    clear CX0 CX1 CX2 CY0 CY1 CY2 VS0 VS1 VS2 VD0 VD1 VD2
    have CX0 : w3.cell? ⟨w.heap.size, 0, none⟩ = some (.bool s) := CX.out.cell 0
    have CX1 : w3.cell? ⟨w.heap.size, 1, none⟩ = some (.slice A xs.length c) := CX.out.cell 1
    have CX2 : w3.cell? ⟨w.heap.size, 2, none⟩ = some (.slice B ys.length d) := CX.out.cell 2
    have CY0 : w3.cell? ⟨w.heap.size + 1, 0, none⟩ = some (.bool s') := CY.out.cell 0
    have CY1 : w3.cell? ⟨w.heap.size + 1, 1, none⟩ = some (.slice A' xs'.length c') := CY.out.cell 1
    have CY2 : w3.cell? ⟨w.heap.size + 1, 2, none⟩ = some (.slice B' ys'.length d') := CY.out.cell 2
    have VS0 : w3.cell? ⟨w1.heap.size, 0, none⟩ = some (.bool false) := VS.out.cell 0
    have VS1 : w3.cell? ⟨w1.heap.size, 1, none⟩ = some (.slice As 0 cs) := VS.out.cell 1
    have VS2 : w3.cell? ⟨w1.heap.size, 2, none⟩ = some (.slice At 0 ct) := VS.out.cell 2
    have VD0 : w3.cell? ⟨w2.heap.size, 0, none⟩ = some (.bool false) := VD.out.cell 0
    have VD1 : w3.cell? ⟨w2.heap.size, 1, none⟩ = some (.slice Au 0 cu) := VD.out.cell 1
    have VD2 : w3.cell? ⟨w2.heap.size, 2, none⟩ = some (.slice Av 0 cv) := VD.out.cell 2
    have HNp := Lib.hid hnp; clear hnp
    obtain ⟨Ap, cp, rfl, hcp, hrp⟩ := HNp.out.row
    have Rp := Lib.hid hrp; have HCp := Lib.hid hcp; clear hrp hcp
    have HNr := Lib.hid hnr; clear hnr
    obtain ⟨Ar, cr, rfl, hcr, hrr⟩ := HNr.out.row
    have Rr := Lib.hid hrr; have HCr := Lib.hid hcr; clear hrr hcr
    rw [show noQ.s = false from rfl, show noQ.n = 0 from rfl, show noQ.d = 0 from rfl, limbs0]
    go_upto_region 5 with fail
    obtain ⟨wk3, hwk3⟩ : ∃ wk3, wk3 = w3.alloc (.cells #[.bool false, .slice Ap 0 cp, .slice Ar 0 cr] 25) := ⟨_, rfl⟩
    rw [← hwk3]
    have hbl : Below w3.heap.size w3 wk3 := by rw [hwk3]; exact bel_alloc (bel_refl _) _
    have VP : Blk wk3 (w3.heap.size) 25 #[.bool false, .slice Ap 0 cp, .slice Ar 0 cr] := by
      have hz := Blk.new (w3) 25 #[.bool false, .slice Ap 0 cp, .slice Ar 0 cr]
      rw [hwk3]
      exact hz
    clear hwk3
    replace R1 := Lib.hid (R1.out.below hbl)
    replace R2 := Lib.hid (R2.out.below hbl)
    replace R3 := Lib.hid (R3.out.below hbl)
    replace R4 := Lib.hid (R4.out.below hbl)
    replace Rs := Lib.hid (Rs.out.below hbl)
    replace HNs := Lib.hid (HNs.out.below hbl)
    replace Rt := Lib.hid (Rt.out.below hbl)
    replace HNt := Lib.hid (HNt.out.below hbl)
    replace Ru := Lib.hid (Ru.out.below hbl)
    replace HNu := Lib.hid (HNu.out.below hbl)
    replace Rv := Lib.hid (Rv.out.below hbl)
    replace HNv := Lib.hid (HNv.out.below hbl)
    replace Rp := Lib.hid (Rp.out.below hbl)
    replace HNp := Lib.hid (HNp.out.below hbl)
    replace Rr := Lib.hid (Rr.out.below hbl)
    replace HNr := Lib.hid (HNr.out.below hbl)
    replace CX := Lib.hid (CX.out.below hbl CX.out.lt)
    replace CY := Lib.hid (CY.out.below hbl CY.out.lt)
    replace VS := Lib.hid (VS.out.below hbl VS.out.lt)
    replace VD := Lib.hid (VD.out.below hbl VD.out.lt)
    replace HW := Lib.hid (bel_trans HW.out hbl); clear hbl
    replace VP := Lib.hid VP
    clear CX0 CX1 CX2 CY0 CY1 CY2 VS0 VS1 VS2 VD0 VD1 VD2
    have CX0 : wk3.cell? ⟨w.heap.size, 0, none⟩ = some (.bool s) := CX.out.cell 0
    have CX1 : wk3.cell? ⟨w.heap.size, 1, none⟩ = some (.slice A xs.length c) := CX.out.cell 1
    have CX2 : wk3.cell? ⟨w.heap.size, 2, none⟩ = some (.slice B ys.length d) := CX.out.cell 2
    have CY0 : wk3.cell? ⟨w.heap.size + 1, 0, none⟩ = some (.bool s') := CY.out.cell 0
    have CY1 : wk3.cell? ⟨w.heap.size + 1, 1, none⟩ = some (.slice A' xs'.length c') := CY.out.cell 1
    have CY2 : wk3.cell? ⟨w.heap.size + 1, 2, none⟩ = some (.slice B' ys'.length d') := CY.out.cell 2
    have VS0 : wk3.cell? ⟨w1.heap.size, 0, none⟩ = some (.bool false) := VS.out.cell 0
    have VS1 : wk3.cell? ⟨w1.heap.size, 1, none⟩ = some (.slice As 0 cs) := VS.out.cell 1
    have VS2 : wk3.cell? ⟨w1.heap.size, 2, none⟩ = some (.slice At 0 ct) := VS.out.cell 2
    have VD0 : wk3.cell? ⟨w2.heap.size, 0, none⟩ = some (.bool false) := VD.out.cell 0
    have VD1 : wk3.cell? ⟨w2.heap.size, 1, none⟩ = some (.slice Au 0 cu) := VD.out.cell 1
    have VD2 : wk3.cell? ⟨w2.heap.size, 2, none⟩ = some (.slice Av 0 cv) := VD.out.cell 2
    have VP0 : wk3.cell? ⟨w3.heap.size, 0, none⟩ = some (.bool false) := VP.out.cell 0
    have VP1 : wk3.cell? ⟨w3.heap.size, 1, none⟩ = some (.slice Ap 0 cp) := VP.out.cell 1
    have VP2 : wk3.cell? ⟨w3.heap.size, 2, none⟩ = some (.slice Ar 0 cr) := VP.out.cell 2
    go_wp2_with fail
    refine (quoQ_bad s s' A B A' B' c d c' d' xs ys xs' ys' _ R1.out R2.out R3.out R4.out M.out.1 M.out.2.1 M.out.2.2.1 M.out.2.2.2 L18.out.1 L18.out.2.1 L18.out.2.2.1 L18.out.2.2.2 KC.out.1 KC.out.2.1 KC.out.2.2.1 KC.out.2.2.2 HRR.out).mono ?_
    rintro e w4 ⟨vx, vy, rfl, hnx, hny, hbl⟩
    replace R1 := Lib.hid (R1.out.below hbl)
    replace R2 := Lib.hid (R2.out.below hbl)
    replace R3 := Lib.hid (R3.out.below hbl)
    replace R4 := Lib.hid (R4.out.below hbl)
    replace Rs := Lib.hid (Rs.out.below hbl)
    replace HNs := Lib.hid (HNs.out.below hbl)
    replace Rt := Lib.hid (Rt.out.below hbl)
    replace HNt := Lib.hid (HNt.out.below hbl)
    replace Ru := Lib.hid (Ru.out.below hbl)
    replace HNu := Lib.hid (HNu.out.below hbl)
    replace Rv := Lib.hid (Rv.out.below hbl)
    replace HNv := Lib.hid (HNv.out.below hbl)
    replace Rp := Lib.hid (Rp.out.below hbl)
    replace HNp := Lib.hid (HNp.out.below hbl)
    replace Rr := Lib.hid (Rr.out.below hbl)
    replace HNr := Lib.hid (HNr.out.below hbl)
    replace CX := Lib.hid (CX.out.below hbl CX.out.lt)
    replace CY := Lib.hid (CY.out.below hbl CY.out.lt)
    replace VS := Lib.hid (VS.out.below hbl VS.out.lt)
    replace VD := Lib.hid (VD.out.below hbl VD.out.lt)
    replace VP := Lib.hid (VP.out.below hbl VP.out.lt)
    replace HW := Lib.hid (bel_trans HW.out hbl); clear hbl
    clear CX0 CX1 CX2 CY0 CY1 CY2 VS0 VS1 VS2 VD0 VD1 VD2 VP0 VP1 VP2
    have CX0 : w4.cell? ⟨w.heap.size, 0, none⟩ = some (.bool s) := CX.out.cell 0
    have CX1 : w4.cell? ⟨w.heap.size, 1, none⟩ = some (.slice A xs.length c) := CX.out.cell 1
    have CX2 : w4.cell? ⟨w.heap.size, 2, none⟩ = some (.slice B ys.length d) := CX.out.cell 2
    have CY0 : w4.cell? ⟨w.heap.size + 1, 0, none⟩ = some (.bool s') := CY.out.cell 0
    have CY1 : w4.cell? ⟨w.heap.size + 1, 1, none⟩ = some (.slice A' xs'.length c') := CY.out.cell 1
    have CY2 : w4.cell? ⟨w.heap.size + 1, 2, none⟩ = some (.slice B' ys'.length d') := CY.out.cell 2
    have VS0 : w4.cell? ⟨w1.heap.size, 0, none⟩ = some (.bool false) := VS.out.cell 0
    have VS1 : w4.cell? ⟨w1.heap.size, 1, none⟩ = some (.slice As 0 cs) := VS.out.cell 1
    have VS2 : w4.cell? ⟨w1.heap.size, 2, none⟩ = some (.slice At 0 ct) := VS.out.cell 2
    have VD0 : w4.cell? ⟨w2.heap.size, 0, none⟩ = some (.bool false) := VD.out.cell 0
    have VD1 : w4.cell? ⟨w2.heap.size, 1, none⟩ = some (.slice Au 0 cu) := VD.out.cell 1
    have VD2 : w4.cell? ⟨w2.heap.size, 2, none⟩ = some (.slice Av 0 cv) := VD.out.cell 2
    have VP0 : w4.cell? ⟨w3.heap.size, 0, none⟩ = some (.bool false) := VP.out.cell 0
    have VP1 : w4.cell? ⟨w3.heap.size, 1, none⟩ = some (.slice Ap 0 cp) := VP.out.cell 1
    have VP2 : w4.cell? ⟨w3.heap.size, 2, none⟩ = some (.slice Ar 0 cr) := VP.out.cell 2
    have HNx := Lib.hid hnx; clear hnx
    obtain ⟨Ax, cx, rfl, hcx, hrx⟩ := HNx.out.row
    have Rx := Lib.hid hrx; have HCx := Lib.hid hcx; clear hrx hcx
    have HNy := Lib.hid hny; clear hny
    obtain ⟨Ay, cy, rfl, hcy, hry⟩ := HNy.out.row
    have Ry := Lib.hid hry; have HCy := Lib.hid hcy; clear hry hcy
    rw [show noQ.s = false from rfl, show noQ.n = 0 from rfl, show noQ.d = 0 from rfl, limbs0]
    go_upto_region 7 with fail
    obtain ⟨wk4, hwk4⟩ : ∃ wk4, wk4 = (w4.alloc (.cells #[.bool false, .slice Ax 0 cx, .slice Ay 0 cy] 25)).alloc (.cells #[.bool false, .slice none 0 0, .slice none 0 0] 25) := ⟨_, rfl⟩
    rw [← hwk4]
    have hbl : Below w4.heap.size w4 wk4 := by rw [hwk4]; exact bel_alloc (bel_alloc (bel_refl _) _) _
    have VQ : Blk wk4 (w4.heap.size) 25 #[.bool false, .slice Ax 0 cx, .slice Ay 0 cy] := by
      have hz := Blk.new (w4) 25 #[.bool false, .slice Ax 0 cx, .slice Ay 0 cy]
      rw [hwk4]
      exact (hz.alloc _)
    have VN : Blk wk4 (w4.heap.size + 1) 25 #[.bool false, .slice none 0 0, .slice none 0 0] := by
      have hz := Blk.new (w4.alloc (.cells #[.bool false, .slice Ax 0 cx, .slice Ay 0 cy] 25)) 25 #[.bool false, .slice none 0 0, .slice none 0 0]
      rw [World.size_alloc] at hz
      rw [hwk4]
      exact hz
    clear hwk4
    replace R1 := Lib.hid (R1.out.below hbl)
    replace R2 := Lib.hid (R2.out.below hbl)
    replace R3 := Lib.hid (R3.out.below hbl)
    replace R4 := Lib.hid (R4.out.below hbl)
    replace Rs := Lib.hid (Rs.out.below hbl)
    replace HNs := Lib.hid (HNs.out.below hbl)
    replace Rt := Lib.hid (Rt.out.below hbl)
    replace HNt := Lib.hid (HNt.out.below hbl)
    replace Ru := Lib.hid (Ru.out.below hbl)
    replace HNu := Lib.hid (HNu.out.below hbl)
    replace Rv := Lib.hid (Rv.out.below hbl)
    replace HNv := Lib.hid (HNv.out.below hbl)
    replace Rp := Lib.hid (Rp.out.below hbl)
    replace HNp := Lib.hid (HNp.out.below hbl)
    replace Rr := Lib.hid (Rr.out.below hbl)
    replace HNr := Lib.hid (HNr.out.below hbl)
    replace Rx := Lib.hid (Rx.out.below hbl)
    replace HNx := Lib.hid (HNx.out.below hbl)
    replace Ry := Lib.hid (Ry.out.below hbl)
    replace HNy := Lib.hid (HNy.out.below hbl)
    replace CX := Lib.hid (CX.out.below hbl CX.out.lt)
    replace CY := Lib.hid (CY.out.below hbl CY.out.lt)
    replace VS := Lib.hid (VS.out.below hbl VS.out.lt)
    replace VD := Lib.hid (VD.out.below hbl VD.out.lt)
    replace VP := Lib.hid (VP.out.below hbl VP.out.lt)
    replace HW := Lib.hid (bel_trans HW.out hbl); clear hbl
    replace VQ := Lib.hid VQ
    replace VN := Lib.hid VN
    clear CX0 CX1 CX2 CY0 CY1 CY2 VS0 VS1 VS2 VD0 VD1 VD2 VP0 VP1 VP2
    have CX0 : wk4.cell? ⟨w.heap.size, 0, none⟩ = some (.bool s) := CX.out.cell 0
    have CX1 : wk4.cell? ⟨w.heap.size, 1, none⟩ = some (.slice A xs.length c) := CX.out.cell 1
    have CX2 : wk4.cell? ⟨w.heap.size, 2, none⟩ = some (.slice B ys.length d) := CX.out.cell 2
    have CY0 : wk4.cell? ⟨w.heap.size + 1, 0, none⟩ = some (.bool s') := CY.out.cell 0
    have CY1 : wk4.cell? ⟨w.heap.size + 1, 1, none⟩ = some (.slice A' xs'.length c') := CY.out.cell 1
    have CY2 : wk4.cell? ⟨w.heap.size + 1, 2, none⟩ = some (.slice B' ys'.length d') := CY.out.cell 2
    have VS0 : wk4.cell? ⟨w1.heap.size, 0, none⟩ = some (.bool false) := VS.out.cell 0
    have VS1 : wk4.cell? ⟨w1.heap.size, 1, none⟩ = some (.slice As 0 cs) := VS.out.cell 1
    have VS2 : wk4.cell? ⟨w1.heap.size, 2, none⟩ = some (.slice At 0 ct) := VS.out.cell 2
    have VD0 : wk4.cell? ⟨w2.heap.size, 0, none⟩ = some (.bool false) := VD.out.cell 0
    have VD1 : wk4.cell? ⟨w2.heap.size, 1, none⟩ = some (.slice Au 0 cu) := VD.out.cell 1
    have VD2 : wk4.cell? ⟨w2.heap.size, 2, none⟩ = some (.slice Av 0 cv) := VD.out.cell 2
    have VP0 : wk4.cell? ⟨w3.heap.size, 0, none⟩ = some (.bool false) := VP.out.cell 0
    have VP1 : wk4.cell? ⟨w3.heap.size, 1, none⟩ = some (.slice Ap 0 cp) := VP.out.cell 1
    have VP2 : wk4.cell? ⟨w3.heap.size, 2, none⟩ = some (.slice Ar 0 cr) := VP.out.cell 2
    have VQ0 : wk4.cell? ⟨w4.heap.size, 0, none⟩ = some (.bool false) := VQ.out.cell 0
    have VQ1 : wk4.cell? ⟨w4.heap.size, 1, none⟩ = some (.slice Ax 0 cx) := VQ.out.cell 1
    have VQ2 : wk4.cell? ⟨w4.heap.size, 2, none⟩ = some (.slice Ay 0 cy) := VQ.out.cell 2
    have VN0 : wk4.cell? ⟨w4.heap.size + 1, 0, none⟩ = some (.bool false) := VN.out.cell 0
    have VN1 : wk4.cell? ⟨w4.heap.size + 1, 1, none⟩ = some (.slice none 0 0) := VN.out.cell 1
    have VN2 : wk4.cell? ⟨w4.heap.size + 1, 2, none⟩ = some (.slice none 0 0) := VN.out.cell 2
    go_wp2_with fail
    refine (refRatRight_is s A B c d xs ys _ R1.out R2.out M.out.1 M.out.2.1 L18.out.1 L18.out.2.1 HR.out).mono ?_
    rintro e w5 ⟨rfl, hbl⟩
    replace R1 := Lib.hid (R1.out.below hbl)
    replace R2 := Lib.hid (R2.out.below hbl)
    replace R3 := Lib.hid (R3.out.below hbl)
    replace R4 := Lib.hid (R4.out.below hbl)
    replace Rs := Lib.hid (Rs.out.below hbl)
    replace HNs := Lib.hid (HNs.out.below hbl)
    replace Rt := Lib.hid (Rt.out.below hbl)
    replace HNt := Lib.hid (HNt.out.below hbl)
    replace Ru := Lib.hid (Ru.out.below hbl)
    replace HNu := Lib.hid (HNu.out.below hbl)
    replace Rv := Lib.hid (Rv.out.below hbl)
    replace HNv := Lib.hid (HNv.out.below hbl)
    replace Rp := Lib.hid (Rp.out.below hbl)
    replace HNp := Lib.hid (HNp.out.below hbl)
    replace Rr := Lib.hid (Rr.out.below hbl)
    replace HNr := Lib.hid (HNr.out.below hbl)
    replace Rx := Lib.hid (Rx.out.below hbl)
    replace HNx := Lib.hid (HNx.out.below hbl)
    replace Ry := Lib.hid (Ry.out.below hbl)
    replace HNy := Lib.hid (HNy.out.below hbl)
    replace CX := Lib.hid (CX.out.below hbl CX.out.lt)
    replace CY := Lib.hid (CY.out.below hbl CY.out.lt)
    replace VS := Lib.hid (VS.out.below hbl VS.out.lt)
    replace VD := Lib.hid (VD.out.below hbl VD.out.lt)
    replace VP := Lib.hid (VP.out.below hbl VP.out.lt)
    replace VQ := Lib.hid (VQ.out.below hbl VQ.out.lt)
    replace VN := Lib.hid (VN.out.below hbl VN.out.lt)
    replace HW := Lib.hid (bel_trans HW.out hbl); clear hbl
    clear CX0 CX1 CX2 CY0 CY1 CY2 VS0 VS1 VS2 VD0 VD1 VD2 VP0 VP1 VP2 VQ0 VQ1 VQ2 VN0 VN1 VN2
    have CX0 : w5.cell? ⟨w.heap.size, 0, none⟩ = some (.bool s) := CX.out.cell 0
    have CX1 : w5.cell? ⟨w.heap.size, 1, none⟩ = some (.slice A xs.length c) := CX.out.cell 1
    have CX2 : w5.cell? ⟨w.heap.size, 2, none⟩ = some (.slice B ys.length d) := CX.out.cell 2
    have CY0 : w5.cell? ⟨w.heap.size + 1, 0, none⟩ = some (.bool s') := CY.out.cell 0
    have CY1 : w5.cell? ⟨w.heap.size + 1, 1, none⟩ = some (.slice A' xs'.length c') := CY.out.cell 1
    have CY2 : w5.cell? ⟨w.heap.size + 1, 2, none⟩ = some (.slice B' ys'.length d') := CY.out.cell 2
    have VS0 : w5.cell? ⟨w1.heap.size, 0, none⟩ = some (.bool false) := VS.out.cell 0
    have VS1 : w5.cell? ⟨w1.heap.size, 1, none⟩ = some (.slice As 0 cs) := VS.out.cell 1
    have VS2 : w5.cell? ⟨w1.heap.size, 2, none⟩ = some (.slice At 0 ct) := VS.out.cell 2
    have VD0 : w5.cell? ⟨w2.heap.size, 0, none⟩ = some (.bool false) := VD.out.cell 0
    have VD1 : w5.cell? ⟨w2.heap.size, 1, none⟩ = some (.slice Au 0 cu) := VD.out.cell 1
    have VD2 : w5.cell? ⟨w2.heap.size, 2, none⟩ = some (.slice Av 0 cv) := VD.out.cell 2
    have VP0 : w5.cell? ⟨w3.heap.size, 0, none⟩ = some (.bool false) := VP.out.cell 0
    have VP1 : w5.cell? ⟨w3.heap.size, 1, none⟩ = some (.slice Ap 0 cp) := VP.out.cell 1
    have VP2 : w5.cell? ⟨w3.heap.size, 2, none⟩ = some (.slice Ar 0 cr) := VP.out.cell 2
    have VQ0 : w5.cell? ⟨w4.heap.size, 0, none⟩ = some (.bool false) := VQ.out.cell 0
    have VQ1 : w5.cell? ⟨w4.heap.size, 1, none⟩ = some (.slice Ax 0 cx) := VQ.out.cell 1
    have VQ2 : w5.cell? ⟨w4.heap.size, 2, none⟩ = some (.slice Ay 0 cy) := VQ.out.cell 2
    have VN0 : w5.cell? ⟨w4.heap.size + 1, 0, none⟩ = some (.bool false) := VN.out.cell 0
    have VN1 : w5.cell? ⟨w4.heap.size + 1, 1, none⟩ = some (.slice none 0 0) := VN.out.cell 1
    have VN2 : w5.cell? ⟨w4.heap.size + 1, 2, none⟩ = some (.slice none 0 0) := VN.out.cell 2
    go_wp2_with fail
    refine (refRatRight_is s' A' B' c' d' xs' ys' _ R3.out R4.out M.out.2.2.1 M.out.2.2.2 L18.out.2.2.1 L18.out.2.2.2 HRB.out).mono ?_
    rintro e w6 ⟨rfl, hbl⟩
    replace R1 := Lib.hid (R1.out.below hbl)
    replace R2 := Lib.hid (R2.out.below hbl)
    replace R3 := Lib.hid (R3.out.below hbl)
    replace R4 := Lib.hid (R4.out.below hbl)
    replace Rs := Lib.hid (Rs.out.below hbl)
    replace HNs := Lib.hid (HNs.out.below hbl)
    replace Rt := Lib.hid (Rt.out.below hbl)
    replace HNt := Lib.hid (HNt.out.below hbl)
    replace Ru := Lib.hid (Ru.out.below hbl)
    replace HNu := Lib.hid (HNu.out.below hbl)
    replace Rv := Lib.hid (Rv.out.below hbl)
    replace HNv := Lib.hid (HNv.out.below hbl)
    replace Rp := Lib.hid (Rp.out.below hbl)
    replace HNp := Lib.hid (HNp.out.below hbl)
    replace Rr := Lib.hid (Rr.out.below hbl)
    replace HNr := Lib.hid (HNr.out.below hbl)
    replace Rx := Lib.hid (Rx.out.below hbl)
    replace HNx := Lib.hid (HNx.out.below hbl)
    replace Ry := Lib.hid (Ry.out.below hbl)
    replace HNy := Lib.hid (HNy.out.below hbl)
    replace CX := Lib.hid (CX.out.below hbl CX.out.lt)
    replace CY := Lib.hid (CY.out.below hbl CY.out.lt)
    replace VS := Lib.hid (VS.out.below hbl VS.out.lt)
    replace VD := Lib.hid (VD.out.below hbl VD.out.lt)
    replace VP := Lib.hid (VP.out.below hbl VP.out.lt)
    replace VQ := Lib.hid (VQ.out.below hbl VQ.out.lt)
    replace VN := Lib.hid (VN.out.below hbl VN.out.lt)
    replace HW := Lib.hid (bel_trans HW.out hbl); clear hbl
    clear CX0 CX1 CX2 CY0 CY1 CY2 VS0 VS1 VS2 VD0 VD1 VD2 VP0 VP1 VP2 VQ0 VQ1 VQ2 VN0 VN1 VN2
    have CX0 : w6.cell? ⟨w.heap.size, 0, none⟩ = some (.bool s) := CX.out.cell 0
    have CX1 : w6.cell? ⟨w.heap.size, 1, none⟩ = some (.slice A xs.length c) := CX.out.cell 1
    have CX2 : w6.cell? ⟨w.heap.size, 2, none⟩ = some (.slice B ys.length d) := CX.out.cell 2
    have CY0 : w6.cell? ⟨w.heap.size + 1, 0, none⟩ = some (.bool s') := CY.out.cell 0
    have CY1 : w6.cell? ⟨w.heap.size + 1, 1, none⟩ = some (.slice A' xs'.length c') := CY.out.cell 1
    have CY2 : w6.cell? ⟨w.heap.size + 1, 2, none⟩ = some (.slice B' ys'.length d') := CY.out.cell 2
    have VS0 : w6.cell? ⟨w1.heap.size, 0, none⟩ = some (.bool false) := VS.out.cell 0
    have VS1 : w6.cell? ⟨w1.heap.size, 1, none⟩ = some (.slice As 0 cs) := VS.out.cell 1
    have VS2 : w6.cell? ⟨w1.heap.size, 2, none⟩ = some (.slice At 0 ct) := VS.out.cell 2
    have VD0 : w6.cell? ⟨w2.heap.size, 0, none⟩ = some (.bool false) := VD.out.cell 0
    have VD1 : w6.cell? ⟨w2.heap.size, 1, none⟩ = some (.slice Au 0 cu) := VD.out.cell 1
    have VD2 : w6.cell? ⟨w2.heap.size, 2, none⟩ = some (.slice Av 0 cv) := VD.out.cell 2
    have VP0 : w6.cell? ⟨w3.heap.size, 0, none⟩ = some (.bool false) := VP.out.cell 0
    have VP1 : w6.cell? ⟨w3.heap.size, 1, none⟩ = some (.slice Ap 0 cp) := VP.out.cell 1
    have VP2 : w6.cell? ⟨w3.heap.size, 2, none⟩ = some (.slice Ar 0 cr) := VP.out.cell 2
    have VQ0 : w6.cell? ⟨w4.heap.size, 0, none⟩ = some (.bool false) := VQ.out.cell 0
    have VQ1 : w6.cell? ⟨w4.heap.size, 1, none⟩ = some (.slice Ax 0 cx) := VQ.out.cell 1
    have VQ2 : w6.cell? ⟨w4.heap.size, 2, none⟩ = some (.slice Ay 0 cy) := VQ.out.cell 2
    have VN0 : w6.cell? ⟨w4.heap.size + 1, 0, none⟩ = some (.bool false) := VN.out.cell 0
    have VN1 : w6.cell? ⟨w4.heap.size + 1, 1, none⟩ = some (.slice none 0 0) := VN.out.cell 1
    have VN2 : w6.cell? ⟨w4.heap.size + 1, 2, none⟩ = some (.slice none 0 0) := VN.out.cell 2
    go_wp2_with fail
    refine (aliveQ _).mono ?_
    rintro e w7 ⟨rfl, hbl⟩
    replace R1 := Lib.hid (R1.out.below hbl)
    replace R2 := Lib.hid (R2.out.below hbl)
    replace R3 := Lib.hid (R3.out.below hbl)
    replace R4 := Lib.hid (R4.out.below hbl)
    replace Rs := Lib.hid (Rs.out.below hbl)
    replace HNs := Lib.hid (HNs.out.below hbl)
    replace Rt := Lib.hid (Rt.out.below hbl)
    replace HNt := Lib.hid (HNt.out.below hbl)
    replace Ru := Lib.hid (Ru.out.below hbl)
    replace HNu := Lib.hid (HNu.out.below hbl)
    replace Rv := Lib.hid (Rv.out.below hbl)
    replace HNv := Lib.hid (HNv.out.below hbl)
    replace Rp := Lib.hid (Rp.out.below hbl)
    replace HNp := Lib.hid (HNp.out.below hbl)
    replace Rr := Lib.hid (Rr.out.below hbl)
    replace HNr := Lib.hid (HNr.out.below hbl)
    replace Rx := Lib.hid (Rx.out.below hbl)
    replace HNx := Lib.hid (HNx.out.below hbl)
    replace Ry := Lib.hid (Ry.out.below hbl)
    replace HNy := Lib.hid (HNy.out.below hbl)
    replace CX := Lib.hid (CX.out.below hbl CX.out.lt)
    replace CY := Lib.hid (CY.out.below hbl CY.out.lt)
    replace VS := Lib.hid (VS.out.below hbl VS.out.lt)
    replace VD := Lib.hid (VD.out.below hbl VD.out.lt)
    replace VP := Lib.hid (VP.out.below hbl VP.out.lt)
    replace VQ := Lib.hid (VQ.out.below hbl VQ.out.lt)
    replace VN := Lib.hid (VN.out.below hbl VN.out.lt)
    replace HW := Lib.hid (bel_trans HW.out hbl); clear hbl
    clear CX0 CX1 CX2 CY0 CY1 CY2 VS0 VS1 VS2 VD0 VD1 VD2 VP0 VP1 VP2 VQ0 VQ1 VQ2 VN0 VN1 VN2
    have CX0 : w7.cell? ⟨w.heap.size, 0, none⟩ = some (.bool s) := CX.out.cell 0
    have CX1 : w7.cell? ⟨w.heap.size, 1, none⟩ = some (.slice A xs.length c) := CX.out.cell 1
    have CX2 : w7.cell? ⟨w.heap.size, 2, none⟩ = some (.slice B ys.length d) := CX.out.cell 2
    have CY0 : w7.cell? ⟨w.heap.size + 1, 0, none⟩ = some (.bool s') := CY.out.cell 0
    have CY1 : w7.cell? ⟨w.heap.size + 1, 1, none⟩ = some (.slice A' xs'.length c') := CY.out.cell 1
    have CY2 : w7.cell? ⟨w.heap.size + 1, 2, none⟩ = some (.slice B' ys'.length d') := CY.out.cell 2
    have VS0 : w7.cell? ⟨w1.heap.size, 0, none⟩ = some (.bool false) := VS.out.cell 0
    have VS1 : w7.cell? ⟨w1.heap.size, 1, none⟩ = some (.slice As 0 cs) := VS.out.cell 1
    have VS2 : w7.cell? ⟨w1.heap.size, 2, none⟩ = some (.slice At 0 ct) := VS.out.cell 2
    have VD0 : w7.cell? ⟨w2.heap.size, 0, none⟩ = some (.bool false) := VD.out.cell 0
    have VD1 : w7.cell? ⟨w2.heap.size, 1, none⟩ = some (.slice Au 0 cu) := VD.out.cell 1
    have VD2 : w7.cell? ⟨w2.heap.size, 2, none⟩ = some (.slice Av 0 cv) := VD.out.cell 2
    have VP0 : w7.cell? ⟨w3.heap.size, 0, none⟩ = some (.bool false) := VP.out.cell 0
    have VP1 : w7.cell? ⟨w3.heap.size, 1, none⟩ = some (.slice Ap 0 cp) := VP.out.cell 1
    have VP2 : w7.cell? ⟨w3.heap.size, 2, none⟩ = some (.slice Ar 0 cr) := VP.out.cell 2
    have VQ0 : w7.cell? ⟨w4.heap.size, 0, none⟩ = some (.bool false) := VQ.out.cell 0
    have VQ1 : w7.cell? ⟨w4.heap.size, 1, none⟩ = some (.slice Ax 0 cx) := VQ.out.cell 1
    have VQ2 : w7.cell? ⟨w4.heap.size, 2, none⟩ = some (.slice Ay 0 cy) := VQ.out.cell 2
    have VN0 : w7.cell? ⟨w4.heap.size + 1, 0, none⟩ = some (.bool false) := VN.out.cell 0
    have VN1 : w7.cell? ⟨w4.heap.size + 1, 1, none⟩ = some (.slice none 0 0) := VN.out.cell 1
    have VN2 : w7.cell? ⟨w4.heap.size + 1, 2, none⟩ = some (.slice none 0 0) := VN.out.cell 2
    go_wp2_with fail
    refine (same_none As At cs ct _).mono ?_
    rintro e w8 ⟨rfl, hbl⟩
    replace R1 := Lib.hid (R1.out.below hbl)
    replace R2 := Lib.hid (R2.out.below hbl)
    replace R3 := Lib.hid (R3.out.below hbl)
    replace R4 := Lib.hid (R4.out.below hbl)
    replace Rs := Lib.hid (Rs.out.below hbl)
    replace HNs := Lib.hid (HNs.out.below hbl)
    replace Rt := Lib.hid (Rt.out.below hbl)
    replace HNt := Lib.hid (HNt.out.below hbl)
    replace Ru := Lib.hid (Ru.out.below hbl)
    replace HNu := Lib.hid (HNu.out.below hbl)
    replace Rv := Lib.hid (Rv.out.below hbl)
    replace HNv := Lib.hid (HNv.out.below hbl)
    replace Rp := Lib.hid (Rp.out.below hbl)
    replace HNp := Lib.hid (HNp.out.below hbl)
    replace Rr := Lib.hid (Rr.out.below hbl)
    replace HNr := Lib.hid (HNr.out.below hbl)
    replace Rx := Lib.hid (Rx.out.below hbl)
    replace HNx := Lib.hid (HNx.out.below hbl)
    replace Ry := Lib.hid (Ry.out.below hbl)
    replace HNy := Lib.hid (HNy.out.below hbl)
    replace CX := Lib.hid (CX.out.below hbl CX.out.lt)
    replace CY := Lib.hid (CY.out.below hbl CY.out.lt)
    replace VS := Lib.hid (VS.out.below hbl VS.out.lt)
    replace VD := Lib.hid (VD.out.below hbl VD.out.lt)
    replace VP := Lib.hid (VP.out.below hbl VP.out.lt)
    replace VQ := Lib.hid (VQ.out.below hbl VQ.out.lt)
    replace VN := Lib.hid (VN.out.below hbl VN.out.lt)
    replace HW := Lib.hid (bel_trans HW.out hbl); clear hbl
    clear CX0 CX1 CX2 CY0 CY1 CY2 VS0 VS1 VS2 VD0 VD1 VD2 VP0 VP1 VP2 VQ0 VQ1 VQ2 VN0 VN1 VN2
    have CX0 : w8.cell? ⟨w.heap.size, 0, none⟩ = some (.bool s) := CX.out.cell 0
    have CX1 : w8.cell? ⟨w.heap.size, 1, none⟩ = some (.slice A xs.length c) := CX.out.cell 1
    have CX2 : w8.cell? ⟨w.heap.size, 2, none⟩ = some (.slice B ys.length d) := CX.out.cell 2
    have CY0 : w8.cell? ⟨w.heap.size + 1, 0, none⟩ = some (.bool s') := CY.out.cell 0
    have CY1 : w8.cell? ⟨w.heap.size + 1, 1, none⟩ = some (.slice A' xs'.length c') := CY.out.cell 1
    have CY2 : w8.cell? ⟨w.heap.size + 1, 2, none⟩ = some (.slice B' ys'.length d') := CY.out.cell 2
    have VS0 : w8.cell? ⟨w1.heap.size, 0, none⟩ = some (.bool false) := VS.out.cell 0
    have VS1 : w8.cell? ⟨w1.heap.size, 1, none⟩ = some (.slice As 0 cs) := VS.out.cell 1
    have VS2 : w8.cell? ⟨w1.heap.size, 2, none⟩ = some (.slice At 0 ct) := VS.out.cell 2
    have VD0 : w8.cell? ⟨w2.heap.size, 0, none⟩ = some (.bool false) := VD.out.cell 0
    have VD1 : w8.cell? ⟨w2.heap.size, 1, none⟩ = some (.slice Au 0 cu) := VD.out.cell 1
    have VD2 : w8.cell? ⟨w2.heap.size, 2, none⟩ = some (.slice Av 0 cv) := VD.out.cell 2
    have VP0 : w8.cell? ⟨w3.heap.size, 0, none⟩ = some (.bool false) := VP.out.cell 0
    have VP1 : w8.cell? ⟨w3.heap.size, 1, none⟩ = some (.slice Ap 0 cp) := VP.out.cell 1
    have VP2 : w8.cell? ⟨w3.heap.size, 2, none⟩ = some (.slice Ar 0 cr) := VP.out.cell 2
    have VQ0 : w8.cell? ⟨w4.heap.size, 0, none⟩ = some (.bool false) := VQ.out.cell 0
    have VQ1 : w8.cell? ⟨w4.heap.size, 1, none⟩ = some (.slice Ax 0 cx) := VQ.out.cell 1
    have VQ2 : w8.cell? ⟨w4.heap.size, 2, none⟩ = some (.slice Ay 0 cy) := VQ.out.cell 2
    have VN0 : w8.cell? ⟨w4.heap.size + 1, 0, none⟩ = some (.bool false) := VN.out.cell 0
    have VN1 : w8.cell? ⟨w4.heap.size + 1, 1, none⟩ = some (.slice none 0 0) := VN.out.cell 1
    have VN2 : w8.cell? ⟨w4.heap.size + 1, 2, none⟩ = some (.slice none 0 0) := VN.out.cell 2
    go_wp2_with fail
    refine (same_none Au Av cu cv _).mono ?_
    rintro e w9 ⟨rfl, hbl⟩
    replace R1 := Lib.hid (R1.out.below hbl)
    replace R2 := Lib.hid (R2.out.below hbl)
    replace R3 := Lib.hid (R3.out.below hbl)
    replace R4 := Lib.hid (R4.out.below hbl)
    replace Rs := Lib.hid (Rs.out.below hbl)
    replace HNs := Lib.hid (HNs.out.below hbl)
    replace Rt := Lib.hid (Rt.out.below hbl)
    replace HNt := Lib.hid (HNt.out.below hbl)
    replace Ru := Lib.hid (Ru.out.below hbl)
    replace HNu := Lib.hid (HNu.out.below hbl)
    replace Rv := Lib.hid (Rv.out.below hbl)
    replace HNv := Lib.hid (HNv.out.below hbl)
    replace Rp := Lib.hid (Rp.out.below hbl)
    replace HNp := Lib.hid (HNp.out.below hbl)
    replace Rr := Lib.hid (Rr.out.below hbl)
    replace HNr := Lib.hid (HNr.out.below hbl)
    replace Rx := Lib.hid (Rx.out.below hbl)
    replace HNx := Lib.hid (HNx.out.below hbl)
    replace Ry := Lib.hid (Ry.out.below hbl)
    replace HNy := Lib.hid (HNy.out.below hbl)
    replace CX := Lib.hid (CX.out.below hbl CX.out.lt)
    replace CY := Lib.hid (CY.out.below hbl CY.out.lt)
    replace VS := Lib.hid (VS.out.below hbl VS.out.lt)
    replace VD := Lib.hid (VD.out.below hbl VD.out.lt)
    replace VP := Lib.hid (VP.out.below hbl VP.out.lt)
    replace VQ := Lib.hid (VQ.out.below hbl VQ.out.lt)
    replace VN := Lib.hid (VN.out.below hbl VN.out.lt)
    replace HW := Lib.hid (bel_trans HW.out hbl); clear hbl
    clear CX0 CX1 CX2 CY0 CY1 CY2 VS0 VS1 VS2 VD0 VD1 VD2 VP0 VP1 VP2 VQ0 VQ1 VQ2 VN0 VN1 VN2
    have CX0 : w9.cell? ⟨w.heap.size, 0, none⟩ = some (.bool s) := CX.out.cell 0
    have CX1 : w9.cell? ⟨w.heap.size, 1, none⟩ = some (.slice A xs.length c) := CX.out.cell 1
    have CX2 : w9.cell? ⟨w.heap.size, 2, none⟩ = some (.slice B ys.length d) := CX.out.cell 2
    have CY0 : w9.cell? ⟨w.heap.size + 1, 0, none⟩ = some (.bool s') := CY.out.cell 0
    have CY1 : w9.cell? ⟨w.heap.size + 1, 1, none⟩ = some (.slice A' xs'.length c') := CY.out.cell 1
    have CY2 : w9.cell? ⟨w.heap.size + 1, 2, none⟩ = some (.slice B' ys'.length d') := CY.out.cell 2
    have VS0 : w9.cell? ⟨w1.heap.size, 0, none⟩ = some (.bool false) := VS.out.cell 0
    have VS1 : w9.cell? ⟨w1.heap.size, 1, none⟩ = some (.slice As 0 cs) := VS.out.cell 1
    have VS2 : w9.cell? ⟨w1.heap.size, 2, none⟩ = some (.slice At 0 ct) := VS.out.cell 2
    have VD0 : w9.cell? ⟨w2.heap.size, 0, none⟩ = some (.bool false) := VD.out.cell 0
    have VD1 : w9.cell? ⟨w2.heap.size, 1, none⟩ = some (.slice Au 0 cu) := VD.out.cell 1
    have VD2 : w9.cell? ⟨w2.heap.size, 2, none⟩ = some (.slice Av 0 cv) := VD.out.cell 2
    have VP0 : w9.cell? ⟨w3.heap.size, 0, none⟩ = some (.bool false) := VP.out.cell 0
    have VP1 : w9.cell? ⟨w3.heap.size, 1, none⟩ = some (.slice Ap 0 cp) := VP.out.cell 1
    have VP2 : w9.cell? ⟨w3.heap.size, 2, none⟩ = some (.slice Ar 0 cr) := VP.out.cell 2
    have VQ0 : w9.cell? ⟨w4.heap.size, 0, none⟩ = some (.bool false) := VQ.out.cell 0
    have VQ1 : w9.cell? ⟨w4.heap.size, 1, none⟩ = some (.slice Ax 0 cx) := VQ.out.cell 1
    have VQ2 : w9.cell? ⟨w4.heap.size, 2, none⟩ = some (.slice Ay 0 cy) := VQ.out.cell 2
    have VN0 : w9.cell? ⟨w4.heap.size + 1, 0, none⟩ = some (.bool false) := VN.out.cell 0
    have VN1 : w9.cell? ⟨w4.heap.size + 1, 1, none⟩ = some (.slice none 0 0) := VN.out.cell 1
    have VN2 : w9.cell? ⟨w4.heap.size + 1, 2, none⟩ = some (.slice none 0 0) := VN.out.cell 2
    go_wp2_with fail
    refine (same_none Ap Ar cp cr _).mono ?_
    rintro e w10 ⟨rfl, hbl⟩
    replace R1 := Lib.hid (R1.out.below hbl)
    replace R2 := Lib.hid (R2.out.below hbl)
    replace R3 := Lib.hid (R3.out.below hbl)
    replace R4 := Lib.hid (R4.out.below hbl)
    replace Rs := Lib.hid (Rs.out.below hbl)
    replace HNs := Lib.hid (HNs.out.below hbl)
    replace Rt := Lib.hid (Rt.out.below hbl)
    replace HNt := Lib.hid (HNt.out.below hbl)
    replace Ru := Lib.hid (Ru.out.below hbl)
    replace HNu := Lib.hid (HNu.out.below hbl)
    replace Rv := Lib.hid (Rv.out.below hbl)
    replace HNv := Lib.hid (HNv.out.below hbl)
    replace Rp := Lib.hid (Rp.out.below hbl)
    replace HNp := Lib.hid (HNp.out.below hbl)
    replace Rr := Lib.hid (Rr.out.below hbl)
    replace HNr := Lib.hid (HNr.out.below hbl)
    replace Rx := Lib.hid (Rx.out.below hbl)
    replace HNx := Lib.hid (HNx.out.below hbl)
    replace Ry := Lib.hid (Ry.out.below hbl)
    replace HNy := Lib.hid (HNy.out.below hbl)
    replace CX := Lib.hid (CX.out.below hbl CX.out.lt)
    replace CY := Lib.hid (CY.out.below hbl CY.out.lt)
    replace VS := Lib.hid (VS.out.below hbl VS.out.lt)
    replace VD := Lib.hid (VD.out.below hbl VD.out.lt)
    replace VP := Lib.hid (VP.out.below hbl VP.out.lt)
    replace VQ := Lib.hid (VQ.out.below hbl VQ.out.lt)
    replace VN := Lib.hid (VN.out.below hbl VN.out.lt)
    replace HW := Lib.hid (bel_trans HW.out hbl); clear hbl
    clear CX0 CX1 CX2 CY0 CY1 CY2 VS0 VS1 VS2 VD0 VD1 VD2 VP0 VP1 VP2 VQ0 VQ1 VQ2 VN0 VN1 VN2
    have CX0 : w10.cell? ⟨w.heap.size, 0, none⟩ = some (.bool s) := CX.out.cell 0
    have CX1 : w10.cell? ⟨w.heap.size, 1, none⟩ = some (.slice A xs.length c) := CX.out.cell 1
    have CX2 : w10.cell? ⟨w.heap.size, 2, none⟩ = some (.slice B ys.length d) := CX.out.cell 2
    have CY0 : w10.cell? ⟨w.heap.size + 1, 0, none⟩ = some (.bool s') := CY.out.cell 0
    have CY1 : w10.cell? ⟨w.heap.size + 1, 1, none⟩ = some (.slice A' xs'.length c') := CY.out.cell 1
    have CY2 : w10.cell? ⟨w.heap.size + 1, 2, none⟩ = some (.slice B' ys'.length d') := CY.out.cell 2
    have VS0 : w10.cell? ⟨w1.heap.size, 0, none⟩ = some (.bool false) := VS.out.cell 0
    have VS1 : w10.cell? ⟨w1.heap.size, 1, none⟩ = some (.slice As 0 cs) := VS.out.cell 1
    have VS2 : w10.cell? ⟨w1.heap.size, 2, none⟩ = some (.slice At 0 ct) := VS.out.cell 2
    have VD0 : w10.cell? ⟨w2.heap.size, 0, none⟩ = some (.bool false) := VD.out.cell 0
    have VD1 : w10.cell? ⟨w2.heap.size, 1, none⟩ = some (.slice Au 0 cu) := VD.out.cell 1
    have VD2 : w10.cell? ⟨w2.heap.size, 2, none⟩ = some (.slice Av 0 cv) := VD.out.cell 2
    have VP0 : w10.cell? ⟨w3.heap.size, 0, none⟩ = some (.bool false) := VP.out.cell 0
    have VP1 : w10.cell? ⟨w3.heap.size, 1, none⟩ = some (.slice Ap 0 cp) := VP.out.cell 1
    have VP2 : w10.cell? ⟨w3.heap.size, 2, none⟩ = some (.slice Ar 0 cr) := VP.out.cell 2
    have VQ0 : w10.cell? ⟨w4.heap.size, 0, none⟩ = some (.bool false) := VQ.out.cell 0
    have VQ1 : w10.cell? ⟨w4.heap.size, 1, none⟩ = some (.slice Ax 0 cx) := VQ.out.cell 1
    have VQ2 : w10.cell? ⟨w4.heap.size, 2, none⟩ = some (.slice Ay 0 cy) := VQ.out.cell 2
    have VN0 : w10.cell? ⟨w4.heap.size + 1, 0, none⟩ = some (.bool false) := VN.out.cell 0
    have VN1 : w10.cell? ⟨w4.heap.size + 1, 1, none⟩ = some (.slice none 0 0) := VN.out.cell 1
    have VN2 : w10.cell? ⟨w4.heap.size + 1, 2, none⟩ = some (.slice none 0 0) := VN.out.cell 2
    go_wp2_with fail
    refine (same_none Ax Ay cx cy _).mono ?_
    rintro e w11 ⟨rfl, hbl⟩
    replace R1 := Lib.hid (R1.out.below hbl)
    replace R2 := Lib.hid (R2.out.below hbl)
    replace R3 := Lib.hid (R3.out.below hbl)
    replace R4 := Lib.hid (R4.out.below hbl)
    replace Rs := Lib.hid (Rs.out.below hbl)
    replace HNs := Lib.hid (HNs.out.below hbl)
    replace Rt := Lib.hid (Rt.out.below hbl)
    replace HNt := Lib.hid (HNt.out.below hbl)
    replace Ru := Lib.hid (Ru.out.below hbl)
    replace HNu := Lib.hid (HNu.out.below hbl)
    replace Rv := Lib.hid (Rv.out.below hbl)
    replace HNv := Lib.hid (HNv.out.below hbl)
    replace Rp := Lib.hid (Rp.out.below hbl)
    replace HNp := Lib.hid (HNp.out.below hbl)
    replace Rr := Lib.hid (Rr.out.below hbl)
    replace HNr := Lib.hid (HNr.out.below hbl)
    replace Rx := Lib.hid (Rx.out.below hbl)
    replace HNx := Lib.hid (HNx.out.below hbl)
    replace Ry := Lib.hid (Ry.out.below hbl)
    replace HNy := Lib.hid (HNy.out.below hbl)
    replace CX := Lib.hid (CX.out.below hbl CX.out.lt)
    replace CY := Lib.hid (CY.out.below hbl CY.out.lt)
    replace VS := Lib.hid (VS.out.below hbl VS.out.lt)
    replace VD := Lib.hid (VD.out.below hbl VD.out.lt)
    replace VP := Lib.hid (VP.out.below hbl VP.out.lt)
    replace VQ := Lib.hid (VQ.out.below hbl VQ.out.lt)
    replace VN := Lib.hid (VN.out.below hbl VN.out.lt)
    replace HW := Lib.hid (bel_trans HW.out hbl); clear hbl
    clear CX0 CX1 CX2 CY0 CY1 CY2 VS0 VS1 VS2 VD0 VD1 VD2 VP0 VP1 VP2 VQ0 VQ1 VQ2 VN0 VN1 VN2
    have CX0 : w11.cell? ⟨w.heap.size, 0, none⟩ = some (.bool s) := CX.out.cell 0
    have CX1 : w11.cell? ⟨w.heap.size, 1, none⟩ = some (.slice A xs.length c) := CX.out.cell 1
    have CX2 : w11.cell? ⟨w.heap.size, 2, none⟩ = some (.slice B ys.length d) := CX.out.cell 2
    have CY0 : w11.cell? ⟨w.heap.size + 1, 0, none⟩ = some (.bool s') := CY.out.cell 0
    have CY1 : w11.cell? ⟨w.heap.size + 1, 1, none⟩ = some (.slice A' xs'.length c') := CY.out.cell 1
    have CY2 : w11.cell? ⟨w.heap.size + 1, 2, none⟩ = some (.slice B' ys'.length d') := CY.out.cell 2
    have VS0 : w11.cell? ⟨w1.heap.size, 0, none⟩ = some (.bool false) := VS.out.cell 0
    have VS1 : w11.cell? ⟨w1.heap.size, 1, none⟩ = some (.slice As 0 cs) := VS.out.cell 1
    have VS2 : w11.cell? ⟨w1.heap.size, 2, none⟩ = some (.slice At 0 ct) := VS.out.cell 2
    have VD0 : w11.cell? ⟨w2.heap.size, 0, none⟩ = some (.bool false) := VD.out.cell 0
    have VD1 : w11.cell? ⟨w2.heap.size, 1, none⟩ = some (.slice Au 0 cu) := VD.out.cell 1
    have VD2 : w11.cell? ⟨w2.heap.size, 2, none⟩ = some (.slice Av 0 cv) := VD.out.cell 2
    have VP0 : w11.cell? ⟨w3.heap.size, 0, none⟩ = some (.bool false) := VP.out.cell 0
    have VP1 : w11.cell? ⟨w3.heap.size, 1, none⟩ = some (.slice Ap 0 cp) := VP.out.cell 1
    have VP2 : w11.cell? ⟨w3.heap.size, 2, none⟩ = some (.slice Ar 0 cr) := VP.out.cell 2
    have VQ0 : w11.cell? ⟨w4.heap.size, 0, none⟩ = some (.bool false) := VQ.out.cell 0
    have VQ1 : w11.cell? ⟨w4.heap.size, 1, none⟩ = some (.slice Ax 0 cx) := VQ.out.cell 1
    have VQ2 : w11.cell? ⟨w4.heap.size, 2, none⟩ = some (.slice Ay 0 cy) := VQ.out.cell 2
    have VN0 : w11.cell? ⟨w4.heap.size + 1, 0, none⟩ = some (.bool false) := VN.out.cell 0
    have VN1 : w11.cell? ⟨w4.heap.size + 1, 1, none⟩ = some (.slice none 0 0) := VN.out.cell 1
    have VN2 : w11.cell? ⟨w4.heap.size + 1, 2, none⟩ = some (.slice none 0 0) := VN.out.cell 2
    go_wp2
    go_ret
    exact ⟨rfl, HW.out⟩
end
end Go.Proofs.Ytmbbdjpnecjleaa
