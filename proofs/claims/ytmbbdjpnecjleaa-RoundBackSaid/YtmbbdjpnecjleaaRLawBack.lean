/-
  What Value answers; the law RoundBack, walked.
-/
import Derived.Test.YtmbbdjpnecjleaaRoE
import Derived.Test.YtmbbdjpnecjleaaRoValue
namespace Go.Proofs.Ytmbbdjpnecjleaa
open Go.RowKit

set_option maxRecDepth 100000 in
set_option maxHeartbeats 1000000 in
theorem back3_ne {q1 : Q} {f1 : Int} {f2 : Int} (N : Nat) (s : Bool) (A B : Option Addr) (c d : Nat) (x0 y0 xs ys : List Nat) (sz : Int) (w : World) (h1 : RdL w A x0) (h2 : RdL w B y0) (k1 : x0.length ≤ c) (k2 : y0.length ≤ d) (m1 : Lim x0) (m2 : Lim y0) (e1 : few x0 = xs) (e2 : few y0 = ys) (hv1 : ∀ w1, Calls Try.prog 47 #[.int .u64 (N : Int), .int .i64 sz] w1 (RetQE q1 f1 w1)) (hne : f1 ≠ 0) (hb2 : ∀ w1, RdL w1 A xs → RdL w1 B ys → Calls Try.prog 12 #[.agg #[.bool s, .slice A xs.length c, .slice B ys.length d], .int .i64 sz] w1 (RetBits 0 false f2 w1)) (hne2 : f2 ≠ 0) :
    Calls Try.prog 10 #[.int .u64 (N : Int), .agg #[.bool s, .slice A x0.length c, .slice B y0.length d], .int .i64 sz] w (RetT w) := by
  have HV1 := Lib.hid hv1; clear hv1
  have z1 : (f1 == 0) = false := by simp [hne]
  have z2 : ¬ f1 = 0 := hne
  clear hne
  have HB2 := Lib.hid hb2; clear hb2
  have z3 : (f2 != 0) = true := by simp [hne2]
  clear hne2
  have R1 := Lib.hid (show RdL w A xs by rw [← e1]; exact h1.take 18); clear h1
  have R2 := Lib.hid (show RdL w B ys by rw [← e2]; exact h2.take 18); clear h2
  have L18 := Lib.hid (show xs.length ≤ 18 ∧ ys.length ≤ 18 by rw [← e1, ← e2]; exact ⟨few_le _, few_le _⟩)
  have KC := Lib.hid (show xs.length ≤ c ∧ ys.length ≤ d by rw [← e1, ← e2]; exact ⟨Nat.le_trans (few_short _) k1, Nat.le_trans (few_short _) k2⟩)
  have M := Lib.hid (show Lim xs ∧ Lim ys by rw [← e1, ← e2]; exact ⟨few_lim m1, few_lim m2⟩); clear m1 m2
  have F := Lib.hid (And.intro k1 (And.intro k2 (And.intro e1 e2))); clear k1 k2 e1 e2
  obtain ⟨wa, hwa⟩ : ∃ wa, wa = w.alloc (.cells #[.bool s, .slice A x0.length c, .slice B y0.length d] 25) := ⟨_, rfl⟩
  have hbl : Below w.heap.size w wa := by rw [hwa]; exact bel_alloc (bel_refl _) _
  have CX : Blk wa (w.heap.size) 25 #[.bool s, .slice A x0.length c, .slice B y0.length d] := by
    have hz := Blk.new (w) 25 #[.bool s, .slice A x0.length c, .slice B y0.length d]
    rw [hwa]
    exact hz
  replace R1 := Lib.hid (R1.out.below hbl)
  replace R2 := Lib.hid (R2.out.below hbl)
  have HW := Lib.hid hbl; clear hbl
  replace CX := Lib.hid CX
  go_enter Try.func10, Try.ntmps10
  go_wp2_with fail
  rw [← hwa]
  clear hwa
  have CX0 : wa.cell? ⟨w.heap.size, 0, none⟩ = some (.bool s) := CX.out.cell 0
  have CX1 : wa.cell? ⟨w.heap.size, 1, none⟩ = some (.slice A x0.length c) := CX.out.cell 1
  have CX2 : wa.cell? ⟨w.heap.size, 2, none⟩ = some (.slice B y0.length d) := CX.out.cell 2
  refine (few3_is s A B c d x0 y0 xs ys _ F.out.1 F.out.2.1 F.out.2.2.1 F.out.2.2.2).mono ?_
  rintro e w1 ⟨rfl, hbl⟩
  replace R1 := Lib.hid (R1.out.below hbl)
  replace R2 := Lib.hid (R2.out.below hbl)
  replace CX := Lib.hid (CX.out.below hbl CX.out.lt)
  replace HW := Lib.hid (bel_trans HW.out hbl); clear hbl
  clear CX0 CX1 CX2
  have CX0 : w1.cell? ⟨w.heap.size, 0, none⟩ = some (.bool s) := CX.out.cell 0
  have CX1 : w1.cell? ⟨w.heap.size, 1, none⟩ = some (.slice A x0.length c) := CX.out.cell 1
  have CX2 : w1.cell? ⟨w.heap.size, 2, none⟩ = some (.slice B y0.length d) := CX.out.cell 2
  have pd0 := CX.out.cell 0
  have pf0 := CX.out.frozen 0
  have pd1 := CX.out.cell 1
  have pf1 := CX.out.frozen 1
  have pd2 := CX.out.cell 2
  have pf2 := CX.out.frozen 2
  go_upto_region 2 with fail
  clear pd0 pf0 pd1 pf1 pd2 pf2
  obtain ⟨wf, hwf⟩ : ∃ wf, wf = (((w1.setCell ⟨w.heap.size, 0, none⟩ (.bool s)).setCell ⟨w.heap.size, 1, none⟩ (.slice A xs.length c)).setCell ⟨w.heap.size, 2, none⟩ (.slice B ys.length d)) := ⟨_, rfl⟩
  rw [← hwf]
  replace R1 := Lib.hid (show RdL wf _ _ by rw [hwf]; exact RdL.set3 (CX.out) (R1.out) _ _ _)
  replace R2 := Lib.hid (show RdL wf _ _ by rw [hwf]; exact RdL.set3 (CX.out) (R2.out) _ _ _)
  have CX_ := Lib.hid (show Blk wf (w.heap.size) 25 #[.bool s, .slice A xs.length c, .slice B ys.length d] by rw [hwf]; exact (((CX.out).put 0 (.bool s)).put 1 (.slice A xs.length c)).put 2 (.slice B ys.length d))
  replace CX := CX_; clear CX_
  replace HW := Lib.hid (show Below w.heap.size w wf by rw [hwf]; exact bel_set (p := ⟨w.heap.size, 2, none⟩) (bel_set (p := ⟨w.heap.size, 1, none⟩) (bel_set (p := ⟨w.heap.size, 0, none⟩) (HW.out) (by show w.heap.size ≤ w.heap.size; omega) _) (by show w.heap.size ≤ w.heap.size; omega) _) (by show w.heap.size ≤ w.heap.size; omega) _)
  clear hwf
  clear CX0 CX1 CX2
  have CX0 : wf.cell? ⟨w.heap.size, 0, none⟩ = some (.bool s) := CX.out.cell 0
  have CX1 : wf.cell? ⟨w.heap.size, 1, none⟩ = some (.slice A xs.length c) := CX.out.cell 1
  have CX2 : wf.cell? ⟨w.heap.size, 2, none⟩ = some (.slice B ys.length d) := CX.out.cell 2
  go_wp2_with fail
  refine (HV1.out _).mono ?_
  rintro e w2 ⟨va, vb, rfl, hna, hnb, hbl⟩
  replace R1 := Lib.hid (R1.out.below hbl)
  replace R2 := Lib.hid (R2.out.below hbl)
  replace CX := Lib.hid (CX.out.below hbl CX.out.lt)
  replace HW := Lib.hid (bel_trans HW.out hbl); clear hbl
  clear CX0 CX1 CX2
  have CX0 : w2.cell? ⟨w.heap.size, 0, none⟩ = some (.bool s) := CX.out.cell 0
  have CX1 : w2.cell? ⟨w.heap.size, 1, none⟩ = some (.slice A xs.length c) := CX.out.cell 1
  have CX2 : w2.cell? ⟨w.heap.size, 2, none⟩ = some (.slice B ys.length d) := CX.out.cell 2
  have HNa := Lib.hid hna; clear hna
  obtain ⟨Aa, ca, rfl, hca, hra⟩ := HNa.out.row
  have Ra := Lib.hid hra; have HCa := Lib.hid hca; clear hra hca
  have HNb := Lib.hid hnb; clear hnb
  obtain ⟨Ab, cb, rfl, hcb, hrb⟩ := HNb.out.row
  have Rb := Lib.hid hrb; have HCb := Lib.hid hcb; clear hrb hcb
  go_upto_region 3 with fail
  obtain ⟨wx, hwx⟩ : ∃ wx, wx = w2.alloc (.cells #[.bool q1.s, .slice Aa (limbs q1.n).length ca, .slice Ab (limbs q1.d).length cb] 25) := ⟨_, rfl⟩
  rw [← hwx]
  have hbl : Below w2.heap.size w2 wx := by rw [hwx]; exact bel_alloc (bel_refl _) _
  have VX : Blk wx (w2.heap.size) 25 #[.bool q1.s, .slice Aa (limbs q1.n).length ca, .slice Ab (limbs q1.d).length cb] := by
    have hz := Blk.new (w2) 25 #[.bool q1.s, .slice Aa (limbs q1.n).length ca, .slice Ab (limbs q1.d).length cb]
    rw [hwx]
    exact hz
  clear hwx
  replace R1 := Lib.hid (R1.out.below hbl)
  replace R2 := Lib.hid (R2.out.below hbl)
  replace Ra := Lib.hid (Ra.out.below hbl)
  replace HNa := Lib.hid (HNa.out.below hbl)
  replace Rb := Lib.hid (Rb.out.below hbl)
  replace HNb := Lib.hid (HNb.out.below hbl)
  replace CX := Lib.hid (CX.out.below hbl CX.out.lt)
  replace HW := Lib.hid (bel_trans HW.out hbl); clear hbl
  replace VX := Lib.hid VX
  clear CX0 CX1 CX2
  have CX0 : wx.cell? ⟨w.heap.size, 0, none⟩ = some (.bool s) := CX.out.cell 0
  have CX1 : wx.cell? ⟨w.heap.size, 1, none⟩ = some (.slice A xs.length c) := CX.out.cell 1
  have CX2 : wx.cell? ⟨w.heap.size, 2, none⟩ = some (.slice B ys.length d) := CX.out.cell 2
  have VX0 : wx.cell? ⟨w2.heap.size, 0, none⟩ = some (.bool q1.s) := VX.out.cell 0
  have VX1 : wx.cell? ⟨w2.heap.size, 1, none⟩ = some (.slice Aa (limbs q1.n).length ca) := VX.out.cell 1
  have VX2 : wx.cell? ⟨w2.heap.size, 2, none⟩ = some (.slice Ab (limbs q1.d).length cb) := VX.out.cell 2
  go_wp2_with fail
  refine (HB2.out _ R1.out R2.out).mono ?_
  rintro e w3 ⟨rfl, hbl⟩
  replace R1 := Lib.hid (R1.out.below hbl)
  replace R2 := Lib.hid (R2.out.below hbl)
  replace Ra := Lib.hid (Ra.out.below hbl)
  replace HNa := Lib.hid (HNa.out.below hbl)
  replace Rb := Lib.hid (Rb.out.below hbl)
  replace HNb := Lib.hid (HNb.out.below hbl)
  replace CX := Lib.hid (CX.out.below hbl CX.out.lt)
  replace VX := Lib.hid (VX.out.below hbl VX.out.lt)
  replace HW := Lib.hid (bel_trans HW.out hbl); clear hbl
  clear CX0 CX1 CX2 VX0 VX1 VX2
  have CX0 : w3.cell? ⟨w.heap.size, 0, none⟩ = some (.bool s) := CX.out.cell 0
  have CX1 : w3.cell? ⟨w.heap.size, 1, none⟩ = some (.slice A xs.length c) := CX.out.cell 1
  have CX2 : w3.cell? ⟨w.heap.size, 2, none⟩ = some (.slice B ys.length d) := CX.out.cell 2
  have VX0 : w3.cell? ⟨w2.heap.size, 0, none⟩ = some (.bool q1.s) := VX.out.cell 0
  have VX1 : w3.cell? ⟨w2.heap.size, 1, none⟩ = some (.slice Aa (limbs q1.n).length ca) := VX.out.cell 1
  have VX2 : w3.cell? ⟨w2.heap.size, 2, none⟩ = some (.slice Ab (limbs q1.d).length cb) := VX.out.cell 2
  go_wp2_with fail
  refine (alive3 _).mono ?_
  rintro e w4 ⟨rfl, hbl⟩
  replace R1 := Lib.hid (R1.out.below hbl)
  replace R2 := Lib.hid (R2.out.below hbl)
  replace Ra := Lib.hid (Ra.out.below hbl)
  replace HNa := Lib.hid (HNa.out.below hbl)
  replace Rb := Lib.hid (Rb.out.below hbl)
  replace HNb := Lib.hid (HNb.out.below hbl)
  replace CX := Lib.hid (CX.out.below hbl CX.out.lt)
  replace VX := Lib.hid (VX.out.below hbl VX.out.lt)
  replace HW := Lib.hid (bel_trans HW.out hbl); clear hbl
  clear CX0 CX1 CX2 VX0 VX1 VX2
  have CX0 : w4.cell? ⟨w.heap.size, 0, none⟩ = some (.bool s) := CX.out.cell 0
  have CX1 : w4.cell? ⟨w.heap.size, 1, none⟩ = some (.slice A xs.length c) := CX.out.cell 1
  have CX2 : w4.cell? ⟨w.heap.size, 2, none⟩ = some (.slice B ys.length d) := CX.out.cell 2
  have VX0 : w4.cell? ⟨w2.heap.size, 0, none⟩ = some (.bool q1.s) := VX.out.cell 0
  have VX1 : w4.cell? ⟨w2.heap.size, 1, none⟩ = some (.slice Aa (limbs q1.n).length ca) := VX.out.cell 1
  have VX2 : w4.cell? ⟨w2.heap.size, 2, none⟩ = some (.slice Ab (limbs q1.d).length cb) := VX.out.cell 2
  go_wp2
  go_ret
  exact ⟨rfl, HW.out⟩

set_option maxRecDepth 100000 in
set_option maxHeartbeats 1000000 in
theorem back3_no {q1 : Q} {f1 : Int} {u : Nat} {x : Bool} {q2 : Q} (N : Nat) (s : Bool) (A B : Option Addr) (c d : Nat) (x0 y0 xs ys : List Nat) (sz : Int) (w : World) (h1 : RdL w A x0) (h2 : RdL w B y0) (k1 : x0.length ≤ c) (k2 : y0.length ≤ d) (m1 : Lim x0) (m2 : Lim y0) (e1 : few x0 = xs) (e2 : few y0 = ys) (hv1 : ∀ w1, Calls Try.prog 47 #[.int .u64 (N : Int), .int .i64 sz] w1 (RetQE q1 f1 w1)) (hne : f1 ≠ 0) (hb2 : ∀ w1, RdL w1 A xs → RdL w1 B ys → Calls Try.prog 12 #[.agg #[.bool s, .slice A xs.length c, .slice B ys.length d], .int .i64 sz] w1 (RetBits u x 0 w1)) (hv2 : ∀ w1, Calls Try.prog 47 #[.int .u64 (u : Int), .int .i64 sz] w1 (RetQE q2 2 w1)) :
    Calls Try.prog 10 #[.int .u64 (N : Int), .agg #[.bool s, .slice A x0.length c, .slice B y0.length d], .int .i64 sz] w (RetT w) := by
  have HV1 := Lib.hid hv1; clear hv1
  have z1 : (f1 == 0) = false := by simp [hne]
  have z2 : ¬ f1 = 0 := hne
  clear hne
  have HB2 := Lib.hid hb2; clear hb2
  have HV2 := Lib.hid hv2; clear hv2
  have R1 := Lib.hid (show RdL w A xs by rw [← e1]; exact h1.take 18); clear h1
  have R2 := Lib.hid (show RdL w B ys by rw [← e2]; exact h2.take 18); clear h2
  have L18 := Lib.hid (show xs.length ≤ 18 ∧ ys.length ≤ 18 by rw [← e1, ← e2]; exact ⟨few_le _, few_le _⟩)
  have KC := Lib.hid (show xs.length ≤ c ∧ ys.length ≤ d by rw [← e1, ← e2]; exact ⟨Nat.le_trans (few_short _) k1, Nat.le_trans (few_short _) k2⟩)
  have M := Lib.hid (show Lim xs ∧ Lim ys by rw [← e1, ← e2]; exact ⟨few_lim m1, few_lim m2⟩); clear m1 m2
  have F := Lib.hid (And.intro k1 (And.intro k2 (And.intro e1 e2))); clear k1 k2 e1 e2
  obtain ⟨wa, hwa⟩ : ∃ wa, wa = w.alloc (.cells #[.bool s, .slice A x0.length c, .slice B y0.length d] 25) := ⟨_, rfl⟩
  have hbl : Below w.heap.size w wa := by rw [hwa]; exact bel_alloc (bel_refl _) _
  have CX : Blk wa (w.heap.size) 25 #[.bool s, .slice A x0.length c, .slice B y0.length d] := by
    have hz := Blk.new (w) 25 #[.bool s, .slice A x0.length c, .slice B y0.length d]
    rw [hwa]
    exact hz
  replace R1 := Lib.hid (R1.out.below hbl)
  replace R2 := Lib.hid (R2.out.below hbl)
  have HW := Lib.hid hbl; clear hbl
  replace CX := Lib.hid CX
  go_enter Try.func10, Try.ntmps10
  go_wp2_with fail
  rw [← hwa]
  clear hwa
  have CX0 : wa.cell? ⟨w.heap.size, 0, none⟩ = some (.bool s) := CX.out.cell 0
  have CX1 : wa.cell? ⟨w.heap.size, 1, none⟩ = some (.slice A x0.length c) := CX.out.cell 1
  have CX2 : wa.cell? ⟨w.heap.size, 2, none⟩ = some (.slice B y0.length d) := CX.out.cell 2
  refine (few3_is s A B c d x0 y0 xs ys _ F.out.1 F.out.2.1 F.out.2.2.1 F.out.2.2.2).mono ?_
  rintro e w1 ⟨rfl, hbl⟩
  replace R1 := Lib.hid (R1.out.below hbl)
  replace R2 := Lib.hid (R2.out.below hbl)
  replace CX := Lib.hid (CX.out.below hbl CX.out.lt)
  replace HW := Lib.hid (bel_trans HW.out hbl); clear hbl
  clear CX0 CX1 CX2
  have CX0 : w1.cell? ⟨w.heap.size, 0, none⟩ = some (.bool s) := CX.out.cell 0
  have CX1 : w1.cell? ⟨w.heap.size, 1, none⟩ = some (.slice A x0.length c) := CX.out.cell 1
  have CX2 : w1.cell? ⟨w.heap.size, 2, none⟩ = some (.slice B y0.length d) := CX.out.cell 2
  have pd0 := CX.out.cell 0
  have pf0 := CX.out.frozen 0
  have pd1 := CX.out.cell 1
  have pf1 := CX.out.frozen 1
  have pd2 := CX.out.cell 2
  have pf2 := CX.out.frozen 2
  go_upto_region 2 with fail
  clear pd0 pf0 pd1 pf1 pd2 pf2
  obtain ⟨wf, hwf⟩ : ∃ wf, wf = (((w1.setCell ⟨w.heap.size, 0, none⟩ (.bool s)).setCell ⟨w.heap.size, 1, none⟩ (.slice A xs.length c)).setCell ⟨w.heap.size, 2, none⟩ (.slice B ys.length d)) := ⟨_, rfl⟩
  rw [← hwf]
  replace R1 := Lib.hid (show RdL wf _ _ by rw [hwf]; exact RdL.set3 (CX.out) (R1.out) _ _ _)
  replace R2 := Lib.hid (show RdL wf _ _ by rw [hwf]; exact RdL.set3 (CX.out) (R2.out) _ _ _)
  have CX_ := Lib.hid (show Blk wf (w.heap.size) 25 #[.bool s, .slice A xs.length c, .slice B ys.length d] by rw [hwf]; exact (((CX.out).put 0 (.bool s)).put 1 (.slice A xs.length c)).put 2 (.slice B ys.length d))
  replace CX := CX_; clear CX_
  replace HW := Lib.hid (show Below w.heap.size w wf by rw [hwf]; exact bel_set (p := ⟨w.heap.size, 2, none⟩) (bel_set (p := ⟨w.heap.size, 1, none⟩) (bel_set (p := ⟨w.heap.size, 0, none⟩) (HW.out) (by show w.heap.size ≤ w.heap.size; omega) _) (by show w.heap.size ≤ w.heap.size; omega) _) (by show w.heap.size ≤ w.heap.size; omega) _)
  clear hwf
  clear CX0 CX1 CX2
  have CX0 : wf.cell? ⟨w.heap.size, 0, none⟩ = some (.bool s) := CX.out.cell 0
  have CX1 : wf.cell? ⟨w.heap.size, 1, none⟩ = some (.slice A xs.length c) := CX.out.cell 1
  have CX2 : wf.cell? ⟨w.heap.size, 2, none⟩ = some (.slice B ys.length d) := CX.out.cell 2
  go_wp2_with fail
  refine (HV1.out _).mono ?_
  rintro e w2 ⟨va, vb, rfl, hna, hnb, hbl⟩
  replace R1 := Lib.hid (R1.out.below hbl)
  replace R2 := Lib.hid (R2.out.below hbl)
  replace CX := Lib.hid (CX.out.below hbl CX.out.lt)
  replace HW := Lib.hid (bel_trans HW.out hbl); clear hbl
  clear CX0 CX1 CX2
  have CX0 : w2.cell? ⟨w.heap.size, 0, none⟩ = some (.bool s) := CX.out.cell 0
  have CX1 : w2.cell? ⟨w.heap.size, 1, none⟩ = some (.slice A xs.length c) := CX.out.cell 1
  have CX2 : w2.cell? ⟨w.heap.size, 2, none⟩ = some (.slice B ys.length d) := CX.out.cell 2
  have HNa := Lib.hid hna; clear hna
  obtain ⟨Aa, ca, rfl, hca, hra⟩ := HNa.out.row
  have Ra := Lib.hid hra; have HCa := Lib.hid hca; clear hra hca
  have HNb := Lib.hid hnb; clear hnb
  obtain ⟨Ab, cb, rfl, hcb, hrb⟩ := HNb.out.row
  have Rb := Lib.hid hrb; have HCb := Lib.hid hcb; clear hrb hcb
  go_upto_region 3 with fail
  obtain ⟨wx, hwx⟩ : ∃ wx, wx = w2.alloc (.cells #[.bool q1.s, .slice Aa (limbs q1.n).length ca, .slice Ab (limbs q1.d).length cb] 25) := ⟨_, rfl⟩
  rw [← hwx]
  have hbl : Below w2.heap.size w2 wx := by rw [hwx]; exact bel_alloc (bel_refl _) _
  have VX : Blk wx (w2.heap.size) 25 #[.bool q1.s, .slice Aa (limbs q1.n).length ca, .slice Ab (limbs q1.d).length cb] := by
    have hz := Blk.new (w2) 25 #[.bool q1.s, .slice Aa (limbs q1.n).length ca, .slice Ab (limbs q1.d).length cb]
    rw [hwx]
    exact hz
  clear hwx
  replace R1 := Lib.hid (R1.out.below hbl)
  replace R2 := Lib.hid (R2.out.below hbl)
  replace Ra := Lib.hid (Ra.out.below hbl)
  replace HNa := Lib.hid (HNa.out.below hbl)
  replace Rb := Lib.hid (Rb.out.below hbl)
  replace HNb := Lib.hid (HNb.out.below hbl)
  replace CX := Lib.hid (CX.out.below hbl CX.out.lt)
  replace HW := Lib.hid (bel_trans HW.out hbl); clear hbl
  replace VX := Lib.hid VX
  clear CX0 CX1 CX2
  have CX0 : wx.cell? ⟨w.heap.size, 0, none⟩ = some (.bool s) := CX.out.cell 0
  have CX1 : wx.cell? ⟨w.heap.size, 1, none⟩ = some (.slice A xs.length c) := CX.out.cell 1
  have CX2 : wx.cell? ⟨w.heap.size, 2, none⟩ = some (.slice B ys.length d) := CX.out.cell 2
  have VX0 : wx.cell? ⟨w2.heap.size, 0, none⟩ = some (.bool q1.s) := VX.out.cell 0
  have VX1 : wx.cell? ⟨w2.heap.size, 1, none⟩ = some (.slice Aa (limbs q1.n).length ca) := VX.out.cell 1
  have VX2 : wx.cell? ⟨w2.heap.size, 2, none⟩ = some (.slice Ab (limbs q1.d).length cb) := VX.out.cell 2
  go_wp2_with fail
  refine (HB2.out _ R1.out R2.out).mono ?_
  rintro e w3 ⟨rfl, hbl⟩
  replace R1 := Lib.hid (R1.out.below hbl)
  replace R2 := Lib.hid (R2.out.below hbl)
  replace Ra := Lib.hid (Ra.out.below hbl)
  replace HNa := Lib.hid (HNa.out.below hbl)
  replace Rb := Lib.hid (Rb.out.below hbl)
  replace HNb := Lib.hid (HNb.out.below hbl)
  replace CX := Lib.hid (CX.out.below hbl CX.out.lt)
  replace VX := Lib.hid (VX.out.below hbl VX.out.lt)
  replace HW := Lib.hid (bel_trans HW.out hbl); clear hbl
  clear CX0 CX1 CX2 VX0 VX1 VX2
  have CX0 : w3.cell? ⟨w.heap.size, 0, none⟩ = some (.bool s) := CX.out.cell 0
  have CX1 : w3.cell? ⟨w.heap.size, 1, none⟩ = some (.slice A xs.length c) := CX.out.cell 1
  have CX2 : w3.cell? ⟨w.heap.size, 2, none⟩ = some (.slice B ys.length d) := CX.out.cell 2
  have VX0 : w3.cell? ⟨w2.heap.size, 0, none⟩ = some (.bool q1.s) := VX.out.cell 0
  have VX1 : w3.cell? ⟨w2.heap.size, 1, none⟩ = some (.slice Aa (limbs q1.n).length ca) := VX.out.cell 1
  have VX2 : w3.cell? ⟨w2.heap.size, 2, none⟩ = some (.slice Ab (limbs q1.d).length cb) := VX.out.cell 2
  go_wp2_with fail
  refine (HV2.out _).mono ?_
  rintro e w4 ⟨vg, vh, rfl, hng, hnh, hbl⟩
  replace R1 := Lib.hid (R1.out.below hbl)
  replace R2 := Lib.hid (R2.out.below hbl)
  replace Ra := Lib.hid (Ra.out.below hbl)
  replace HNa := Lib.hid (HNa.out.below hbl)
  replace Rb := Lib.hid (Rb.out.below hbl)
  replace HNb := Lib.hid (HNb.out.below hbl)
  replace CX := Lib.hid (CX.out.below hbl CX.out.lt)
  replace VX := Lib.hid (VX.out.below hbl VX.out.lt)
  replace HW := Lib.hid (bel_trans HW.out hbl); clear hbl
  clear CX0 CX1 CX2 VX0 VX1 VX2
  have CX0 : w4.cell? ⟨w.heap.size, 0, none⟩ = some (.bool s) := CX.out.cell 0
  have CX1 : w4.cell? ⟨w.heap.size, 1, none⟩ = some (.slice A xs.length c) := CX.out.cell 1
  have CX2 : w4.cell? ⟨w.heap.size, 2, none⟩ = some (.slice B ys.length d) := CX.out.cell 2
  have VX0 : w4.cell? ⟨w2.heap.size, 0, none⟩ = some (.bool q1.s) := VX.out.cell 0
  have VX1 : w4.cell? ⟨w2.heap.size, 1, none⟩ = some (.slice Aa (limbs q1.n).length ca) := VX.out.cell 1
  have VX2 : w4.cell? ⟨w2.heap.size, 2, none⟩ = some (.slice Ab (limbs q1.d).length cb) := VX.out.cell 2
  have HNg := Lib.hid hng; clear hng
  obtain ⟨Ag, cg, rfl, hcg, hrg⟩ := HNg.out.row
  have Rg := Lib.hid hrg; have HCg := Lib.hid hcg; clear hrg hcg
  have HNh := Lib.hid hnh; clear hnh
  obtain ⟨Ah, ch, rfl, hch, hrh⟩ := HNh.out.row
  have Rh := Lib.hid hrh; have HCh := Lib.hid hch; clear hrh hch
  go_upto_region 11 with fail
  obtain ⟨wy, hwy⟩ : ∃ wy, wy = w4.alloc (.cells #[.bool q2.s, .slice Ag (limbs q2.n).length cg, .slice Ah (limbs q2.d).length ch] 25) := ⟨_, rfl⟩
  rw [← hwy]
  have hbl : Below w4.heap.size w4 wy := by rw [hwy]; exact bel_alloc (bel_refl _) _
  have VY : Blk wy (w4.heap.size) 25 #[.bool q2.s, .slice Ag (limbs q2.n).length cg, .slice Ah (limbs q2.d).length ch] := by
    have hz := Blk.new (w4) 25 #[.bool q2.s, .slice Ag (limbs q2.n).length cg, .slice Ah (limbs q2.d).length ch]
    rw [hwy]
    exact hz
  clear hwy
  replace R1 := Lib.hid (R1.out.below hbl)
  replace R2 := Lib.hid (R2.out.below hbl)
  replace Ra := Lib.hid (Ra.out.below hbl)
  replace HNa := Lib.hid (HNa.out.below hbl)
  replace Rb := Lib.hid (Rb.out.below hbl)
  replace HNb := Lib.hid (HNb.out.below hbl)
  replace Rg := Lib.hid (Rg.out.below hbl)
  replace HNg := Lib.hid (HNg.out.below hbl)
  replace Rh := Lib.hid (Rh.out.below hbl)
  replace HNh := Lib.hid (HNh.out.below hbl)
  replace CX := Lib.hid (CX.out.below hbl CX.out.lt)
  replace VX := Lib.hid (VX.out.below hbl VX.out.lt)
  replace HW := Lib.hid (bel_trans HW.out hbl); clear hbl
  replace VY := Lib.hid VY
  clear CX0 CX1 CX2 VX0 VX1 VX2
  have CX0 : wy.cell? ⟨w.heap.size, 0, none⟩ = some (.bool s) := CX.out.cell 0
  have CX1 : wy.cell? ⟨w.heap.size, 1, none⟩ = some (.slice A xs.length c) := CX.out.cell 1
  have CX2 : wy.cell? ⟨w.heap.size, 2, none⟩ = some (.slice B ys.length d) := CX.out.cell 2
  have VX0 : wy.cell? ⟨w2.heap.size, 0, none⟩ = some (.bool q1.s) := VX.out.cell 0
  have VX1 : wy.cell? ⟨w2.heap.size, 1, none⟩ = some (.slice Aa (limbs q1.n).length ca) := VX.out.cell 1
  have VX2 : wy.cell? ⟨w2.heap.size, 2, none⟩ = some (.slice Ab (limbs q1.d).length cb) := VX.out.cell 2
  have VY0 : wy.cell? ⟨w4.heap.size, 0, none⟩ = some (.bool q2.s) := VY.out.cell 0
  have VY1 : wy.cell? ⟨w4.heap.size, 1, none⟩ = some (.slice Ag (limbs q2.n).length cg) := VY.out.cell 1
  have VY2 : wy.cell? ⟨w4.heap.size, 2, none⟩ = some (.slice Ah (limbs q2.d).length ch) := VY.out.cell 2
  go_wp2_with fail
  refine (alive3 _).mono ?_
  rintro e w5 ⟨rfl, hbl⟩
  replace R1 := Lib.hid (R1.out.below hbl)
  replace R2 := Lib.hid (R2.out.below hbl)
  replace Ra := Lib.hid (Ra.out.below hbl)
  replace HNa := Lib.hid (HNa.out.below hbl)
  replace Rb := Lib.hid (Rb.out.below hbl)
  replace HNb := Lib.hid (HNb.out.below hbl)
  replace Rg := Lib.hid (Rg.out.below hbl)
  replace HNg := Lib.hid (HNg.out.below hbl)
  replace Rh := Lib.hid (Rh.out.below hbl)
  replace HNh := Lib.hid (HNh.out.below hbl)
  replace CX := Lib.hid (CX.out.below hbl CX.out.lt)
  replace VX := Lib.hid (VX.out.below hbl VX.out.lt)
  replace VY := Lib.hid (VY.out.below hbl VY.out.lt)
  replace HW := Lib.hid (bel_trans HW.out hbl); clear hbl
  clear CX0 CX1 CX2 VX0 VX1 VX2 VY0 VY1 VY2
  have CX0 : w5.cell? ⟨w.heap.size, 0, none⟩ = some (.bool s) := CX.out.cell 0
  have CX1 : w5.cell? ⟨w.heap.size, 1, none⟩ = some (.slice A xs.length c) := CX.out.cell 1
  have CX2 : w5.cell? ⟨w.heap.size, 2, none⟩ = some (.slice B ys.length d) := CX.out.cell 2
  have VX0 : w5.cell? ⟨w2.heap.size, 0, none⟩ = some (.bool q1.s) := VX.out.cell 0
  have VX1 : w5.cell? ⟨w2.heap.size, 1, none⟩ = some (.slice Aa (limbs q1.n).length ca) := VX.out.cell 1
  have VX2 : w5.cell? ⟨w2.heap.size, 2, none⟩ = some (.slice Ab (limbs q1.d).length cb) := VX.out.cell 2
  have VY0 : w5.cell? ⟨w4.heap.size, 0, none⟩ = some (.bool q2.s) := VY.out.cell 0
  have VY1 : w5.cell? ⟨w4.heap.size, 1, none⟩ = some (.slice Ag (limbs q2.n).length cg) := VY.out.cell 1
  have VY2 : w5.cell? ⟨w4.heap.size, 2, none⟩ = some (.slice Ah (limbs q2.d).length ch) := VY.out.cell 2
  go_wp2
  go_ret
  exact ⟨rfl, HW.out⟩

set_option maxRecDepth 100000 in
set_option maxHeartbeats 1000000 in
theorem back3_ns {q1 : Q} {f1 : Int} {u : Nat} {x : Bool} {q2 : Q} (N : Nat) (s : Bool) (A B : Option Addr) (c d : Nat) (x0 y0 xs ys : List Nat) (sz : Int) (w : World) (h1 : RdL w A x0) (h2 : RdL w B y0) (k1 : x0.length ≤ c) (k2 : y0.length ≤ d) (m1 : Lim x0) (m2 : Lim y0) (e1 : few x0 = xs) (e2 : few y0 = ys) (hv1 : ∀ w1, Calls Try.prog 47 #[.int .u64 (N : Int), .int .i64 sz] w1 (RetQE q1 f1 w1)) (hne : f1 ≠ 0) (hb2 : ∀ w1, RdL w1 A xs → RdL w1 B ys → Calls Try.prog 12 #[.agg #[.bool s, .slice A xs.length c, .slice B ys.length d], .int .i64 sz] w1 (RetBits u x 0 w1)) (hv2 : ∀ w1, Calls Try.prog 47 #[.int .u64 (u : Int), .int .i64 sz] w1 (RetQE q2 0 w1)) (hl : likeB q2.s s (limbs q2.n) (limbs q2.d) xs ys = x) (t3 : q2.n < Top) (t4 : q2.d < Top) :
    Calls Try.prog 10 #[.int .u64 (N : Int), .agg #[.bool s, .slice A x0.length c, .slice B y0.length d], .int .i64 sz] w (RetT w) := by
  have HV1 := Lib.hid hv1; clear hv1
  have z1 : (f1 == 0) = false := by simp [hne]
  have z2 : ¬ f1 = 0 := hne
  clear hne
  have HB2 := Lib.hid hb2; clear hb2
  have HV2 := Lib.hid hv2; clear hv2
  have HL := Lib.hid (And.intro hl (And.intro t3 t4)); clear hl t3 t4
  have R1 := Lib.hid (show RdL w A xs by rw [← e1]; exact h1.take 18); clear h1
  have R2 := Lib.hid (show RdL w B ys by rw [← e2]; exact h2.take 18); clear h2
  have L18 := Lib.hid (show xs.length ≤ 18 ∧ ys.length ≤ 18 by rw [← e1, ← e2]; exact ⟨few_le _, few_le _⟩)
  have KC := Lib.hid (show xs.length ≤ c ∧ ys.length ≤ d by rw [← e1, ← e2]; exact ⟨Nat.le_trans (few_short _) k1, Nat.le_trans (few_short _) k2⟩)
  have M := Lib.hid (show Lim xs ∧ Lim ys by rw [← e1, ← e2]; exact ⟨few_lim m1, few_lim m2⟩); clear m1 m2
  have F := Lib.hid (And.intro k1 (And.intro k2 (And.intro e1 e2))); clear k1 k2 e1 e2
  obtain ⟨wa, hwa⟩ : ∃ wa, wa = w.alloc (.cells #[.bool s, .slice A x0.length c, .slice B y0.length d] 25) := ⟨_, rfl⟩
  have hbl : Below w.heap.size w wa := by rw [hwa]; exact bel_alloc (bel_refl _) _
  have CX : Blk wa (w.heap.size) 25 #[.bool s, .slice A x0.length c, .slice B y0.length d] := by
    have hz := Blk.new (w) 25 #[.bool s, .slice A x0.length c, .slice B y0.length d]
    rw [hwa]
    exact hz
  replace R1 := Lib.hid (R1.out.below hbl)
  replace R2 := Lib.hid (R2.out.below hbl)
  have HW := Lib.hid hbl; clear hbl
  replace CX := Lib.hid CX
  go_enter Try.func10, Try.ntmps10
  go_wp2_with fail
  rw [← hwa]
  clear hwa
  have CX0 : wa.cell? ⟨w.heap.size, 0, none⟩ = some (.bool s) := CX.out.cell 0
  have CX1 : wa.cell? ⟨w.heap.size, 1, none⟩ = some (.slice A x0.length c) := CX.out.cell 1
  have CX2 : wa.cell? ⟨w.heap.size, 2, none⟩ = some (.slice B y0.length d) := CX.out.cell 2
  refine (few3_is s A B c d x0 y0 xs ys _ F.out.1 F.out.2.1 F.out.2.2.1 F.out.2.2.2).mono ?_
  rintro e w1 ⟨rfl, hbl⟩
  replace R1 := Lib.hid (R1.out.below hbl)
  replace R2 := Lib.hid (R2.out.below hbl)
  replace CX := Lib.hid (CX.out.below hbl CX.out.lt)
  replace HW := Lib.hid (bel_trans HW.out hbl); clear hbl
  clear CX0 CX1 CX2
  have CX0 : w1.cell? ⟨w.heap.size, 0, none⟩ = some (.bool s) := CX.out.cell 0
  have CX1 : w1.cell? ⟨w.heap.size, 1, none⟩ = some (.slice A x0.length c) := CX.out.cell 1
  have CX2 : w1.cell? ⟨w.heap.size, 2, none⟩ = some (.slice B y0.length d) := CX.out.cell 2
  have pd0 := CX.out.cell 0
  have pf0 := CX.out.frozen 0
  have pd1 := CX.out.cell 1
  have pf1 := CX.out.frozen 1
  have pd2 := CX.out.cell 2
  have pf2 := CX.out.frozen 2
  go_upto_region 2 with fail
  clear pd0 pf0 pd1 pf1 pd2 pf2
  obtain ⟨wf, hwf⟩ : ∃ wf, wf = (((w1.setCell ⟨w.heap.size, 0, none⟩ (.bool s)).setCell ⟨w.heap.size, 1, none⟩ (.slice A xs.length c)).setCell ⟨w.heap.size, 2, none⟩ (.slice B ys.length d)) := ⟨_, rfl⟩
  rw [← hwf]
  replace R1 := Lib.hid (show RdL wf _ _ by rw [hwf]; exact RdL.set3 (CX.out) (R1.out) _ _ _)
  replace R2 := Lib.hid (show RdL wf _ _ by rw [hwf]; exact RdL.set3 (CX.out) (R2.out) _ _ _)
  have CX_ := Lib.hid (show Blk wf (w.heap.size) 25 #[.bool s, .slice A xs.length c, .slice B ys.length d] by rw [hwf]; exact (((CX.out).put 0 (.bool s)).put 1 (.slice A xs.length c)).put 2 (.slice B ys.length d))
  replace CX := CX_; clear CX_
  replace HW := Lib.hid (show Below w.heap.size w wf by rw [hwf]; exact bel_set (p := ⟨w.heap.size, 2, none⟩) (bel_set (p := ⟨w.heap.size, 1, none⟩) (bel_set (p := ⟨w.heap.size, 0, none⟩) (HW.out) (by show w.heap.size ≤ w.heap.size; omega) _) (by show w.heap.size ≤ w.heap.size; omega) _) (by show w.heap.size ≤ w.heap.size; omega) _)
  clear hwf
  clear CX0 CX1 CX2
  have CX0 : wf.cell? ⟨w.heap.size, 0, none⟩ = some (.bool s) := CX.out.cell 0
  have CX1 : wf.cell? ⟨w.heap.size, 1, none⟩ = some (.slice A xs.length c) := CX.out.cell 1
  have CX2 : wf.cell? ⟨w.heap.size, 2, none⟩ = some (.slice B ys.length d) := CX.out.cell 2
  go_wp2_with fail
  refine (HV1.out _).mono ?_
  rintro e w2 ⟨va, vb, rfl, hna, hnb, hbl⟩
  replace R1 := Lib.hid (R1.out.below hbl)
  replace R2 := Lib.hid (R2.out.below hbl)
  replace CX := Lib.hid (CX.out.below hbl CX.out.lt)
  replace HW := Lib.hid (bel_trans HW.out hbl); clear hbl
  clear CX0 CX1 CX2
  have CX0 : w2.cell? ⟨w.heap.size, 0, none⟩ = some (.bool s) := CX.out.cell 0
  have CX1 : w2.cell? ⟨w.heap.size, 1, none⟩ = some (.slice A xs.length c) := CX.out.cell 1
  have CX2 : w2.cell? ⟨w.heap.size, 2, none⟩ = some (.slice B ys.length d) := CX.out.cell 2
  have HNa := Lib.hid hna; clear hna
  obtain ⟨Aa, ca, rfl, hca, hra⟩ := HNa.out.row
  have Ra := Lib.hid hra; have HCa := Lib.hid hca; clear hra hca
  have HNb := Lib.hid hnb; clear hnb
  obtain ⟨Ab, cb, rfl, hcb, hrb⟩ := HNb.out.row
  have Rb := Lib.hid hrb; have HCb := Lib.hid hcb; clear hrb hcb
  go_upto_region 3 with fail
  obtain ⟨wx, hwx⟩ : ∃ wx, wx = w2.alloc (.cells #[.bool q1.s, .slice Aa (limbs q1.n).length ca, .slice Ab (limbs q1.d).length cb] 25) := ⟨_, rfl⟩
  rw [← hwx]
  have hbl : Below w2.heap.size w2 wx := by rw [hwx]; exact bel_alloc (bel_refl _) _
  have VX : Blk wx (w2.heap.size) 25 #[.bool q1.s, .slice Aa (limbs q1.n).length ca, .slice Ab (limbs q1.d).length cb] := by
    have hz := Blk.new (w2) 25 #[.bool q1.s, .slice Aa (limbs q1.n).length ca, .slice Ab (limbs q1.d).length cb]
    rw [hwx]
    exact hz
  clear hwx
  replace R1 := Lib.hid (R1.out.below hbl)
  replace R2 := Lib.hid (R2.out.below hbl)
  replace Ra := Lib.hid (Ra.out.below hbl)
  replace HNa := Lib.hid (HNa.out.below hbl)
  replace Rb := Lib.hid (Rb.out.below hbl)
  replace HNb := Lib.hid (HNb.out.below hbl)
  replace CX := Lib.hid (CX.out.below hbl CX.out.lt)
  replace HW := Lib.hid (bel_trans HW.out hbl); clear hbl
  replace VX := Lib.hid VX
  clear CX0 CX1 CX2
  have CX0 : wx.cell? ⟨w.heap.size, 0, none⟩ = some (.bool s) := CX.out.cell 0
  have CX1 : wx.cell? ⟨w.heap.size, 1, none⟩ = some (.slice A xs.length c) := CX.out.cell 1
  have CX2 : wx.cell? ⟨w.heap.size, 2, none⟩ = some (.slice B ys.length d) := CX.out.cell 2
  have VX0 : wx.cell? ⟨w2.heap.size, 0, none⟩ = some (.bool q1.s) := VX.out.cell 0
  have VX1 : wx.cell? ⟨w2.heap.size, 1, none⟩ = some (.slice Aa (limbs q1.n).length ca) := VX.out.cell 1
  have VX2 : wx.cell? ⟨w2.heap.size, 2, none⟩ = some (.slice Ab (limbs q1.d).length cb) := VX.out.cell 2
  go_wp2_with fail
  refine (HB2.out _ R1.out R2.out).mono ?_
  rintro e w3 ⟨rfl, hbl⟩
  replace R1 := Lib.hid (R1.out.below hbl)
  replace R2 := Lib.hid (R2.out.below hbl)
  replace Ra := Lib.hid (Ra.out.below hbl)
  replace HNa := Lib.hid (HNa.out.below hbl)
  replace Rb := Lib.hid (Rb.out.below hbl)
  replace HNb := Lib.hid (HNb.out.below hbl)
  replace CX := Lib.hid (CX.out.below hbl CX.out.lt)
  replace VX := Lib.hid (VX.out.below hbl VX.out.lt)
  replace HW := Lib.hid (bel_trans HW.out hbl); clear hbl
  clear CX0 CX1 CX2 VX0 VX1 VX2
  have CX0 : w3.cell? ⟨w.heap.size, 0, none⟩ = some (.bool s) := CX.out.cell 0
  have CX1 : w3.cell? ⟨w.heap.size, 1, none⟩ = some (.slice A xs.length c) := CX.out.cell 1
  have CX2 : w3.cell? ⟨w.heap.size, 2, none⟩ = some (.slice B ys.length d) := CX.out.cell 2
  have VX0 : w3.cell? ⟨w2.heap.size, 0, none⟩ = some (.bool q1.s) := VX.out.cell 0
  have VX1 : w3.cell? ⟨w2.heap.size, 1, none⟩ = some (.slice Aa (limbs q1.n).length ca) := VX.out.cell 1
  have VX2 : w3.cell? ⟨w2.heap.size, 2, none⟩ = some (.slice Ab (limbs q1.d).length cb) := VX.out.cell 2
  go_wp2_with fail
  refine (HV2.out _).mono ?_
  rintro e w4 ⟨vg, vh, rfl, hng, hnh, hbl⟩
  replace R1 := Lib.hid (R1.out.below hbl)
  replace R2 := Lib.hid (R2.out.below hbl)
  replace Ra := Lib.hid (Ra.out.below hbl)
  replace HNa := Lib.hid (HNa.out.below hbl)
  replace Rb := Lib.hid (Rb.out.below hbl)
  replace HNb := Lib.hid (HNb.out.below hbl)
  replace CX := Lib.hid (CX.out.below hbl CX.out.lt)
  replace VX := Lib.hid (VX.out.below hbl VX.out.lt)
  replace HW := Lib.hid (bel_trans HW.out hbl); clear hbl
  clear CX0 CX1 CX2 VX0 VX1 VX2
  have CX0 : w4.cell? ⟨w.heap.size, 0, none⟩ = some (.bool s) := CX.out.cell 0
  have CX1 : w4.cell? ⟨w.heap.size, 1, none⟩ = some (.slice A xs.length c) := CX.out.cell 1
  have CX2 : w4.cell? ⟨w.heap.size, 2, none⟩ = some (.slice B ys.length d) := CX.out.cell 2
  have VX0 : w4.cell? ⟨w2.heap.size, 0, none⟩ = some (.bool q1.s) := VX.out.cell 0
  have VX1 : w4.cell? ⟨w2.heap.size, 1, none⟩ = some (.slice Aa (limbs q1.n).length ca) := VX.out.cell 1
  have VX2 : w4.cell? ⟨w2.heap.size, 2, none⟩ = some (.slice Ab (limbs q1.d).length cb) := VX.out.cell 2
  have HNg := Lib.hid hng; clear hng
  obtain ⟨Ag, cg, rfl, hcg, hrg⟩ := HNg.out.row
  have Rg := Lib.hid hrg; have HCg := Lib.hid hcg; clear hrg hcg
  have HNh := Lib.hid hnh; clear hnh
  obtain ⟨Ah, ch, rfl, hch, hrh⟩ := HNh.out.row
  have Rh := Lib.hid hrh; have HCh := Lib.hid hch; clear hrh hch
  go_upto_region 11 with fail
  obtain ⟨wy, hwy⟩ : ∃ wy, wy = w4.alloc (.cells #[.bool q2.s, .slice Ag (limbs q2.n).length cg, .slice Ah (limbs q2.d).length ch] 25) := ⟨_, rfl⟩
  rw [← hwy]
  have hbl : Below w4.heap.size w4 wy := by rw [hwy]; exact bel_alloc (bel_refl _) _
  have VY : Blk wy (w4.heap.size) 25 #[.bool q2.s, .slice Ag (limbs q2.n).length cg, .slice Ah (limbs q2.d).length ch] := by
    have hz := Blk.new (w4) 25 #[.bool q2.s, .slice Ag (limbs q2.n).length cg, .slice Ah (limbs q2.d).length ch]
    rw [hwy]
    exact hz
  clear hwy
  replace R1 := Lib.hid (R1.out.below hbl)
  replace R2 := Lib.hid (R2.out.below hbl)
  replace Ra := Lib.hid (Ra.out.below hbl)
  replace HNa := Lib.hid (HNa.out.below hbl)
  replace Rb := Lib.hid (Rb.out.below hbl)
  replace HNb := Lib.hid (HNb.out.below hbl)
  replace Rg := Lib.hid (Rg.out.below hbl)
  replace HNg := Lib.hid (HNg.out.below hbl)
  replace Rh := Lib.hid (Rh.out.below hbl)
  replace HNh := Lib.hid (HNh.out.below hbl)
  replace CX := Lib.hid (CX.out.below hbl CX.out.lt)
  replace VX := Lib.hid (VX.out.below hbl VX.out.lt)
  replace HW := Lib.hid (bel_trans HW.out hbl); clear hbl
  replace VY := Lib.hid VY
  clear CX0 CX1 CX2 VX0 VX1 VX2
  have CX0 : wy.cell? ⟨w.heap.size, 0, none⟩ = some (.bool s) := CX.out.cell 0
  have CX1 : wy.cell? ⟨w.heap.size, 1, none⟩ = some (.slice A xs.length c) := CX.out.cell 1
  have CX2 : wy.cell? ⟨w.heap.size, 2, none⟩ = some (.slice B ys.length d) := CX.out.cell 2
  have VX0 : wy.cell? ⟨w2.heap.size, 0, none⟩ = some (.bool q1.s) := VX.out.cell 0
  have VX1 : wy.cell? ⟨w2.heap.size, 1, none⟩ = some (.slice Aa (limbs q1.n).length ca) := VX.out.cell 1
  have VX2 : wy.cell? ⟨w2.heap.size, 2, none⟩ = some (.slice Ab (limbs q1.d).length cb) := VX.out.cell 2
  have VY0 : wy.cell? ⟨w4.heap.size, 0, none⟩ = some (.bool q2.s) := VY.out.cell 0
  have VY1 : wy.cell? ⟨w4.heap.size, 1, none⟩ = some (.slice Ag (limbs q2.n).length cg) := VY.out.cell 1
  have VY2 : wy.cell? ⟨w4.heap.size, 2, none⟩ = some (.slice Ah (limbs q2.d).length ch) := VY.out.cell 2
  go_wp2_with fail
  refine (alive3 _).mono ?_
  rintro e w5 ⟨rfl, hbl⟩
  replace R1 := Lib.hid (R1.out.below hbl)
  replace R2 := Lib.hid (R2.out.below hbl)
  replace Ra := Lib.hid (Ra.out.below hbl)
  replace HNa := Lib.hid (HNa.out.below hbl)
  replace Rb := Lib.hid (Rb.out.below hbl)
  replace HNb := Lib.hid (HNb.out.below hbl)
  replace Rg := Lib.hid (Rg.out.below hbl)
  replace HNg := Lib.hid (HNg.out.below hbl)
  replace Rh := Lib.hid (Rh.out.below hbl)
  replace HNh := Lib.hid (HNh.out.below hbl)
  replace CX := Lib.hid (CX.out.below hbl CX.out.lt)
  replace VX := Lib.hid (VX.out.below hbl VX.out.lt)
  replace VY := Lib.hid (VY.out.below hbl VY.out.lt)
  replace HW := Lib.hid (bel_trans HW.out hbl); clear hbl
  clear CX0 CX1 CX2 VX0 VX1 VX2 VY0 VY1 VY2
  have CX0 : w5.cell? ⟨w.heap.size, 0, none⟩ = some (.bool s) := CX.out.cell 0
  have CX1 : w5.cell? ⟨w.heap.size, 1, none⟩ = some (.slice A xs.length c) := CX.out.cell 1
  have CX2 : w5.cell? ⟨w.heap.size, 2, none⟩ = some (.slice B ys.length d) := CX.out.cell 2
  have VX0 : w5.cell? ⟨w2.heap.size, 0, none⟩ = some (.bool q1.s) := VX.out.cell 0
  have VX1 : w5.cell? ⟨w2.heap.size, 1, none⟩ = some (.slice Aa (limbs q1.n).length ca) := VX.out.cell 1
  have VX2 : w5.cell? ⟨w2.heap.size, 2, none⟩ = some (.slice Ab (limbs q1.d).length cb) := VX.out.cell 2
  have VY0 : w5.cell? ⟨w4.heap.size, 0, none⟩ = some (.bool q2.s) := VY.out.cell 0
  have VY1 : w5.cell? ⟨w4.heap.size, 1, none⟩ = some (.slice Ag (limbs q2.n).length cg) := VY.out.cell 1
  have VY2 : w5.cell? ⟨w4.heap.size, 2, none⟩ = some (.slice Ah (limbs q2.d).length ch) := VY.out.cell 2
  go_wp2_with fail
  refine (refSame_ok (b := x) q2.s s Ag Ah A B cg ch c d (limbs q2.n) (limbs q2.d) xs ys _ Rg.out R1.out (len18 HL.out.2.1) Rh.out R2.out (len18 HL.out.2.2) HL.out.1).mono ?_
  rintro e w6 ⟨rfl, hbl⟩
  replace R1 := Lib.hid (R1.out.below hbl)
  replace R2 := Lib.hid (R2.out.below hbl)
  replace Ra := Lib.hid (Ra.out.below hbl)
  replace HNa := Lib.hid (HNa.out.below hbl)
  replace Rb := Lib.hid (Rb.out.below hbl)
  replace HNb := Lib.hid (HNb.out.below hbl)
  replace Rg := Lib.hid (Rg.out.below hbl)
  replace HNg := Lib.hid (HNg.out.below hbl)
  replace Rh := Lib.hid (Rh.out.below hbl)
  replace HNh := Lib.hid (HNh.out.below hbl)
  replace CX := Lib.hid (CX.out.below hbl CX.out.lt)
  replace VX := Lib.hid (VX.out.below hbl VX.out.lt)
  replace VY := Lib.hid (VY.out.below hbl VY.out.lt)
  replace HW := Lib.hid (bel_trans HW.out hbl); clear hbl
  clear CX0 CX1 CX2 VX0 VX1 VX2 VY0 VY1 VY2
  have CX0 : w6.cell? ⟨w.heap.size, 0, none⟩ = some (.bool s) := CX.out.cell 0
  have CX1 : w6.cell? ⟨w.heap.size, 1, none⟩ = some (.slice A xs.length c) := CX.out.cell 1
  have CX2 : w6.cell? ⟨w.heap.size, 2, none⟩ = some (.slice B ys.length d) := CX.out.cell 2
  have VX0 : w6.cell? ⟨w2.heap.size, 0, none⟩ = some (.bool q1.s) := VX.out.cell 0
  have VX1 : w6.cell? ⟨w2.heap.size, 1, none⟩ = some (.slice Aa (limbs q1.n).length ca) := VX.out.cell 1
  have VX2 : w6.cell? ⟨w2.heap.size, 2, none⟩ = some (.slice Ab (limbs q1.d).length cb) := VX.out.cell 2
  have VY0 : w6.cell? ⟨w4.heap.size, 0, none⟩ = some (.bool q2.s) := VY.out.cell 0
  have VY1 : w6.cell? ⟨w4.heap.size, 1, none⟩ = some (.slice Ag (limbs q2.n).length cg) := VY.out.cell 1
  have VY2 : w6.cell? ⟨w4.heap.size, 2, none⟩ = some (.slice Ah (limbs q2.d).length ch) := VY.out.cell 2
  go_wp2
  go_ret
  exact ⟨rfl, HW.out⟩

set_option maxRecDepth 100000 in
set_option maxHeartbeats 1000000 in
theorem back3_ye {q1 : Q} {f2 : Int} (N : Nat) (s : Bool) (A B : Option Addr) (c d : Nat) (x0 y0 xs ys : List Nat) (sz : Int) (w : World) (h1 : RdL w A x0) (h2 : RdL w B y0) (k1 : x0.length ≤ c) (k2 : y0.length ≤ d) (m1 : Lim x0) (m2 : Lim y0) (e1 : few x0 = xs) (e2 : few y0 = ys) (hv1 : ∀ w1, Calls Try.prog 47 #[.int .u64 (N : Int), .int .i64 sz] w1 (RetQE q1 0 w1)) (t1 : q1.n < Top) (t2 : q1.d < Top) (hq1 : QR q1) (hb1 : ∀ w1 A1 B1 c1 d1, RdL w1 A1 (limbs q1.n) → RdL w1 B1 (limbs q1.d) → (limbs q1.n).length ≤ c1 → (limbs q1.d).length ≤ d1 → Calls Try.prog 12 #[.agg #[.bool q1.s, .slice A1 (limbs q1.n).length c1, .slice B1 (limbs q1.d).length d1], .int .i64 sz] w1 (RetBits N true 0 w1)) (hb2 : ∀ w1, RdL w1 A xs → RdL w1 B ys → Calls Try.prog 12 #[.agg #[.bool s, .slice A xs.length c, .slice B ys.length d], .int .i64 sz] w1 (RetBits 0 false f2 w1)) (hne2 : f2 ≠ 0) :
    Calls Try.prog 10 #[.int .u64 (N : Int), .agg #[.bool s, .slice A x0.length c, .slice B y0.length d], .int .i64 sz] w (RetT w) := by
  have HV1 := Lib.hid hv1; clear hv1
  have HB1 := Lib.hid hb1; clear hb1
  have HQ1 := Lib.hid (And.intro t1 (And.intro t2 hq1)); clear t1 t2 hq1
  have HB2 := Lib.hid hb2; clear hb2
  have z3 : (f2 != 0) = true := by simp [hne2]
  clear hne2
  have R1 := Lib.hid (show RdL w A xs by rw [← e1]; exact h1.take 18); clear h1
  have R2 := Lib.hid (show RdL w B ys by rw [← e2]; exact h2.take 18); clear h2
  have L18 := Lib.hid (show xs.length ≤ 18 ∧ ys.length ≤ 18 by rw [← e1, ← e2]; exact ⟨few_le _, few_le _⟩)
  have KC := Lib.hid (show xs.length ≤ c ∧ ys.length ≤ d by rw [← e1, ← e2]; exact ⟨Nat.le_trans (few_short _) k1, Nat.le_trans (few_short _) k2⟩)
  have M := Lib.hid (show Lim xs ∧ Lim ys by rw [← e1, ← e2]; exact ⟨few_lim m1, few_lim m2⟩); clear m1 m2
  have F := Lib.hid (And.intro k1 (And.intro k2 (And.intro e1 e2))); clear k1 k2 e1 e2
  obtain ⟨wa, hwa⟩ : ∃ wa, wa = w.alloc (.cells #[.bool s, .slice A x0.length c, .slice B y0.length d] 25) := ⟨_, rfl⟩
  have hbl : Below w.heap.size w wa := by rw [hwa]; exact bel_alloc (bel_refl _) _
  have CX : Blk wa (w.heap.size) 25 #[.bool s, .slice A x0.length c, .slice B y0.length d] := by
    have hz := Blk.new (w) 25 #[.bool s, .slice A x0.length c, .slice B y0.length d]
    rw [hwa]
    exact hz
  replace R1 := Lib.hid (R1.out.below hbl)
  replace R2 := Lib.hid (R2.out.below hbl)
  have HW := Lib.hid hbl; clear hbl
  replace CX := Lib.hid CX
  go_enter Try.func10, Try.ntmps10
  go_wp2_with fail
  rw [← hwa]
  clear hwa
  have CX0 : wa.cell? ⟨w.heap.size, 0, none⟩ = some (.bool s) := CX.out.cell 0
  have CX1 : wa.cell? ⟨w.heap.size, 1, none⟩ = some (.slice A x0.length c) := CX.out.cell 1
  have CX2 : wa.cell? ⟨w.heap.size, 2, none⟩ = some (.slice B y0.length d) := CX.out.cell 2
  refine (few3_is s A B c d x0 y0 xs ys _ F.out.1 F.out.2.1 F.out.2.2.1 F.out.2.2.2).mono ?_
  rintro e w1 ⟨rfl, hbl⟩
  replace R1 := Lib.hid (R1.out.below hbl)
  replace R2 := Lib.hid (R2.out.below hbl)
  replace CX := Lib.hid (CX.out.below hbl CX.out.lt)
  replace HW := Lib.hid (bel_trans HW.out hbl); clear hbl
  clear CX0 CX1 CX2
  have CX0 : w1.cell? ⟨w.heap.size, 0, none⟩ = some (.bool s) := CX.out.cell 0
  have CX1 : w1.cell? ⟨w.heap.size, 1, none⟩ = some (.slice A x0.length c) := CX.out.cell 1
  have CX2 : w1.cell? ⟨w.heap.size, 2, none⟩ = some (.slice B y0.length d) := CX.out.cell 2
  have pd0 := CX.out.cell 0
  have pf0 := CX.out.frozen 0
  have pd1 := CX.out.cell 1
  have pf1 := CX.out.frozen 1
  have pd2 := CX.out.cell 2
  have pf2 := CX.out.frozen 2
  go_upto_region 2 with fail
  clear pd0 pf0 pd1 pf1 pd2 pf2
  obtain ⟨wf, hwf⟩ : ∃ wf, wf = (((w1.setCell ⟨w.heap.size, 0, none⟩ (.bool s)).setCell ⟨w.heap.size, 1, none⟩ (.slice A xs.length c)).setCell ⟨w.heap.size, 2, none⟩ (.slice B ys.length d)) := ⟨_, rfl⟩
  rw [← hwf]
  replace R1 := Lib.hid (show RdL wf _ _ by rw [hwf]; exact RdL.set3 (CX.out) (R1.out) _ _ _)
  replace R2 := Lib.hid (show RdL wf _ _ by rw [hwf]; exact RdL.set3 (CX.out) (R2.out) _ _ _)
  have CX_ := Lib.hid (show Blk wf (w.heap.size) 25 #[.bool s, .slice A xs.length c, .slice B ys.length d] by rw [hwf]; exact (((CX.out).put 0 (.bool s)).put 1 (.slice A xs.length c)).put 2 (.slice B ys.length d))
  replace CX := CX_; clear CX_
  replace HW := Lib.hid (show Below w.heap.size w wf by rw [hwf]; exact bel_set (p := ⟨w.heap.size, 2, none⟩) (bel_set (p := ⟨w.heap.size, 1, none⟩) (bel_set (p := ⟨w.heap.size, 0, none⟩) (HW.out) (by show w.heap.size ≤ w.heap.size; omega) _) (by show w.heap.size ≤ w.heap.size; omega) _) (by show w.heap.size ≤ w.heap.size; omega) _)
  clear hwf
  clear CX0 CX1 CX2
  have CX0 : wf.cell? ⟨w.heap.size, 0, none⟩ = some (.bool s) := CX.out.cell 0
  have CX1 : wf.cell? ⟨w.heap.size, 1, none⟩ = some (.slice A xs.length c) := CX.out.cell 1
  have CX2 : wf.cell? ⟨w.heap.size, 2, none⟩ = some (.slice B ys.length d) := CX.out.cell 2
  go_wp2_with fail
  refine (HV1.out _).mono ?_
  rintro e w2 ⟨va, vb, rfl, hna, hnb, hbl⟩
  replace R1 := Lib.hid (R1.out.below hbl)
  replace R2 := Lib.hid (R2.out.below hbl)
  replace CX := Lib.hid (CX.out.below hbl CX.out.lt)
  replace HW := Lib.hid (bel_trans HW.out hbl); clear hbl
  clear CX0 CX1 CX2
  have CX0 : w2.cell? ⟨w.heap.size, 0, none⟩ = some (.bool s) := CX.out.cell 0
  have CX1 : w2.cell? ⟨w.heap.size, 1, none⟩ = some (.slice A xs.length c) := CX.out.cell 1
  have CX2 : w2.cell? ⟨w.heap.size, 2, none⟩ = some (.slice B ys.length d) := CX.out.cell 2
  have HNa := Lib.hid hna; clear hna
  obtain ⟨Aa, ca, rfl, hca, hra⟩ := HNa.out.row
  have Ra := Lib.hid hra; have HCa := Lib.hid hca; clear hra hca
  have HNb := Lib.hid hnb; clear hnb
  obtain ⟨Ab, cb, rfl, hcb, hrb⟩ := HNb.out.row
  have Rb := Lib.hid hrb; have HCb := Lib.hid hcb; clear hrb hcb
  go_upto_region 3 with fail
  obtain ⟨wx, hwx⟩ : ∃ wx, wx = w2.alloc (.cells #[.bool q1.s, .slice Aa (limbs q1.n).length ca, .slice Ab (limbs q1.d).length cb] 25) := ⟨_, rfl⟩
  rw [← hwx]
  have hbl : Below w2.heap.size w2 wx := by rw [hwx]; exact bel_alloc (bel_refl _) _
  have VX : Blk wx (w2.heap.size) 25 #[.bool q1.s, .slice Aa (limbs q1.n).length ca, .slice Ab (limbs q1.d).length cb] := by
    have hz := Blk.new (w2) 25 #[.bool q1.s, .slice Aa (limbs q1.n).length ca, .slice Ab (limbs q1.d).length cb]
    rw [hwx]
    exact hz
  clear hwx
  replace R1 := Lib.hid (R1.out.below hbl)
  replace R2 := Lib.hid (R2.out.below hbl)
  replace Ra := Lib.hid (Ra.out.below hbl)
  replace HNa := Lib.hid (HNa.out.below hbl)
  replace Rb := Lib.hid (Rb.out.below hbl)
  replace HNb := Lib.hid (HNb.out.below hbl)
  replace CX := Lib.hid (CX.out.below hbl CX.out.lt)
  replace HW := Lib.hid (bel_trans HW.out hbl); clear hbl
  replace VX := Lib.hid VX
  clear CX0 CX1 CX2
  have CX0 : wx.cell? ⟨w.heap.size, 0, none⟩ = some (.bool s) := CX.out.cell 0
  have CX1 : wx.cell? ⟨w.heap.size, 1, none⟩ = some (.slice A xs.length c) := CX.out.cell 1
  have CX2 : wx.cell? ⟨w.heap.size, 2, none⟩ = some (.slice B ys.length d) := CX.out.cell 2
  have VX0 : wx.cell? ⟨w2.heap.size, 0, none⟩ = some (.bool q1.s) := VX.out.cell 0
  have VX1 : wx.cell? ⟨w2.heap.size, 1, none⟩ = some (.slice Aa (limbs q1.n).length ca) := VX.out.cell 1
  have VX2 : wx.cell? ⟨w2.heap.size, 2, none⟩ = some (.slice Ab (limbs q1.d).length cb) := VX.out.cell 2
  go_wp2_with fail
  refine (HB1.out _ Aa Ab ca cb Ra.out Rb.out HCa.out HCb.out).mono ?_
  rintro e w3 ⟨rfl, hbl⟩
  replace R1 := Lib.hid (R1.out.below hbl)
  replace R2 := Lib.hid (R2.out.below hbl)
  replace Ra := Lib.hid (Ra.out.below hbl)
  replace HNa := Lib.hid (HNa.out.below hbl)
  replace Rb := Lib.hid (Rb.out.below hbl)
  replace HNb := Lib.hid (HNb.out.below hbl)
  replace CX := Lib.hid (CX.out.below hbl CX.out.lt)
  replace VX := Lib.hid (VX.out.below hbl VX.out.lt)
  replace HW := Lib.hid (bel_trans HW.out hbl); clear hbl
  clear CX0 CX1 CX2 VX0 VX1 VX2
  have CX0 : w3.cell? ⟨w.heap.size, 0, none⟩ = some (.bool s) := CX.out.cell 0
  have CX1 : w3.cell? ⟨w.heap.size, 1, none⟩ = some (.slice A xs.length c) := CX.out.cell 1
  have CX2 : w3.cell? ⟨w.heap.size, 2, none⟩ = some (.slice B ys.length d) := CX.out.cell 2
  have VX0 : w3.cell? ⟨w2.heap.size, 0, none⟩ = some (.bool q1.s) := VX.out.cell 0
  have VX1 : w3.cell? ⟨w2.heap.size, 1, none⟩ = some (.slice Aa (limbs q1.n).length ca) := VX.out.cell 1
  have VX2 : w3.cell? ⟨w2.heap.size, 2, none⟩ = some (.slice Ab (limbs q1.d).length cb) := VX.out.cell 2
  go_wp2_with fail
  refine (ratRight_q q1 Aa Ab ca cb _ Ra.out Rb.out HCa.out HCb.out HQ1.out.1 HQ1.out.2.1 HQ1.out.2.2).mono ?_
  rintro e w4 ⟨rfl, hbl⟩
  replace R1 := Lib.hid (R1.out.below hbl)
  replace R2 := Lib.hid (R2.out.below hbl)
  replace Ra := Lib.hid (Ra.out.below hbl)
  replace HNa := Lib.hid (HNa.out.below hbl)
  replace Rb := Lib.hid (Rb.out.below hbl)
  replace HNb := Lib.hid (HNb.out.below hbl)
  replace CX := Lib.hid (CX.out.below hbl CX.out.lt)
  replace VX := Lib.hid (VX.out.below hbl VX.out.lt)
  replace HW := Lib.hid (bel_trans HW.out hbl); clear hbl
  clear CX0 CX1 CX2 VX0 VX1 VX2
  have CX0 : w4.cell? ⟨w.heap.size, 0, none⟩ = some (.bool s) := CX.out.cell 0
  have CX1 : w4.cell? ⟨w.heap.size, 1, none⟩ = some (.slice A xs.length c) := CX.out.cell 1
  have CX2 : w4.cell? ⟨w.heap.size, 2, none⟩ = some (.slice B ys.length d) := CX.out.cell 2
  have VX0 : w4.cell? ⟨w2.heap.size, 0, none⟩ = some (.bool q1.s) := VX.out.cell 0
  have VX1 : w4.cell? ⟨w2.heap.size, 1, none⟩ = some (.slice Aa (limbs q1.n).length ca) := VX.out.cell 1
  have VX2 : w4.cell? ⟨w2.heap.size, 2, none⟩ = some (.slice Ab (limbs q1.d).length cb) := VX.out.cell 2
  go_wp2_with fail
  refine (HB2.out _ R1.out R2.out).mono ?_
  rintro e w5 ⟨rfl, hbl⟩
  replace R1 := Lib.hid (R1.out.below hbl)
  replace R2 := Lib.hid (R2.out.below hbl)
  replace Ra := Lib.hid (Ra.out.below hbl)
  replace HNa := Lib.hid (HNa.out.below hbl)
  replace Rb := Lib.hid (Rb.out.below hbl)
  replace HNb := Lib.hid (HNb.out.below hbl)
  replace CX := Lib.hid (CX.out.below hbl CX.out.lt)
  replace VX := Lib.hid (VX.out.below hbl VX.out.lt)
  replace HW := Lib.hid (bel_trans HW.out hbl); clear hbl
  clear CX0 CX1 CX2 VX0 VX1 VX2
  have CX0 : w5.cell? ⟨w.heap.size, 0, none⟩ = some (.bool s) := CX.out.cell 0
  have CX1 : w5.cell? ⟨w.heap.size, 1, none⟩ = some (.slice A xs.length c) := CX.out.cell 1
  have CX2 : w5.cell? ⟨w.heap.size, 2, none⟩ = some (.slice B ys.length d) := CX.out.cell 2
  have VX0 : w5.cell? ⟨w2.heap.size, 0, none⟩ = some (.bool q1.s) := VX.out.cell 0
  have VX1 : w5.cell? ⟨w2.heap.size, 1, none⟩ = some (.slice Aa (limbs q1.n).length ca) := VX.out.cell 1
  have VX2 : w5.cell? ⟨w2.heap.size, 2, none⟩ = some (.slice Ab (limbs q1.d).length cb) := VX.out.cell 2
  go_wp2_with fail
  refine (alive3 _).mono ?_
  rintro e w6 ⟨rfl, hbl⟩
  replace R1 := Lib.hid (R1.out.below hbl)
  replace R2 := Lib.hid (R2.out.below hbl)
  replace Ra := Lib.hid (Ra.out.below hbl)
  replace HNa := Lib.hid (HNa.out.below hbl)
  replace Rb := Lib.hid (Rb.out.below hbl)
  replace HNb := Lib.hid (HNb.out.below hbl)
  replace CX := Lib.hid (CX.out.below hbl CX.out.lt)
  replace VX := Lib.hid (VX.out.below hbl VX.out.lt)
  replace HW := Lib.hid (bel_trans HW.out hbl); clear hbl
  clear CX0 CX1 CX2 VX0 VX1 VX2
  have CX0 : w6.cell? ⟨w.heap.size, 0, none⟩ = some (.bool s) := CX.out.cell 0
  have CX1 : w6.cell? ⟨w.heap.size, 1, none⟩ = some (.slice A xs.length c) := CX.out.cell 1
  have CX2 : w6.cell? ⟨w.heap.size, 2, none⟩ = some (.slice B ys.length d) := CX.out.cell 2
  have VX0 : w6.cell? ⟨w2.heap.size, 0, none⟩ = some (.bool q1.s) := VX.out.cell 0
  have VX1 : w6.cell? ⟨w2.heap.size, 1, none⟩ = some (.slice Aa (limbs q1.n).length ca) := VX.out.cell 1
  have VX2 : w6.cell? ⟨w2.heap.size, 2, none⟩ = some (.slice Ab (limbs q1.d).length cb) := VX.out.cell 2
  go_wp2
  go_ret
  exact ⟨rfl, HW.out⟩

set_option maxRecDepth 100000 in
set_option maxHeartbeats 1000000 in
theorem back3_yo {q1 : Q} {u : Nat} {x : Bool} {q2 : Q} (N : Nat) (s : Bool) (A B : Option Addr) (c d : Nat) (x0 y0 xs ys : List Nat) (sz : Int) (w : World) (h1 : RdL w A x0) (h2 : RdL w B y0) (k1 : x0.length ≤ c) (k2 : y0.length ≤ d) (m1 : Lim x0) (m2 : Lim y0) (e1 : few x0 = xs) (e2 : few y0 = ys) (hv1 : ∀ w1, Calls Try.prog 47 #[.int .u64 (N : Int), .int .i64 sz] w1 (RetQE q1 0 w1)) (t1 : q1.n < Top) (t2 : q1.d < Top) (hq1 : QR q1) (hb1 : ∀ w1 A1 B1 c1 d1, RdL w1 A1 (limbs q1.n) → RdL w1 B1 (limbs q1.d) → (limbs q1.n).length ≤ c1 → (limbs q1.d).length ≤ d1 → Calls Try.prog 12 #[.agg #[.bool q1.s, .slice A1 (limbs q1.n).length c1, .slice B1 (limbs q1.d).length d1], .int .i64 sz] w1 (RetBits N true 0 w1)) (hb2 : ∀ w1, RdL w1 A xs → RdL w1 B ys → Calls Try.prog 12 #[.agg #[.bool s, .slice A xs.length c, .slice B ys.length d], .int .i64 sz] w1 (RetBits u x 0 w1)) (hv2 : ∀ w1, Calls Try.prog 47 #[.int .u64 (u : Int), .int .i64 sz] w1 (RetQE q2 2 w1)) :
    Calls Try.prog 10 #[.int .u64 (N : Int), .agg #[.bool s, .slice A x0.length c, .slice B y0.length d], .int .i64 sz] w (RetT w) := by
  have HV1 := Lib.hid hv1; clear hv1
  have HB1 := Lib.hid hb1; clear hb1
  have HQ1 := Lib.hid (And.intro t1 (And.intro t2 hq1)); clear t1 t2 hq1
  have HB2 := Lib.hid hb2; clear hb2
  have HV2 := Lib.hid hv2; clear hv2
  have R1 := Lib.hid (show RdL w A xs by rw [← e1]; exact h1.take 18); clear h1
  have R2 := Lib.hid (show RdL w B ys by rw [← e2]; exact h2.take 18); clear h2
  have L18 := Lib.hid (show xs.length ≤ 18 ∧ ys.length ≤ 18 by rw [← e1, ← e2]; exact ⟨few_le _, few_le _⟩)
  have KC := Lib.hid (show xs.length ≤ c ∧ ys.length ≤ d by rw [← e1, ← e2]; exact ⟨Nat.le_trans (few_short _) k1, Nat.le_trans (few_short _) k2⟩)
  have M := Lib.hid (show Lim xs ∧ Lim ys by rw [← e1, ← e2]; exact ⟨few_lim m1, few_lim m2⟩); clear m1 m2
  have F := Lib.hid (And.intro k1 (And.intro k2 (And.intro e1 e2))); clear k1 k2 e1 e2
  obtain ⟨wa, hwa⟩ : ∃ wa, wa = w.alloc (.cells #[.bool s, .slice A x0.length c, .slice B y0.length d] 25) := ⟨_, rfl⟩
  have hbl : Below w.heap.size w wa := by rw [hwa]; exact bel_alloc (bel_refl _) _
  have CX : Blk wa (w.heap.size) 25 #[.bool s, .slice A x0.length c, .slice B y0.length d] := by
    have hz := Blk.new (w) 25 #[.bool s, .slice A x0.length c, .slice B y0.length d]
    rw [hwa]
    exact hz
  replace R1 := Lib.hid (R1.out.below hbl)
  replace R2 := Lib.hid (R2.out.below hbl)
  have HW := Lib.hid hbl; clear hbl
  replace CX := Lib.hid CX
  go_enter Try.func10, Try.ntmps10
  go_wp2_with fail
  rw [← hwa]
  clear hwa
  have CX0 : wa.cell? ⟨w.heap.size, 0, none⟩ = some (.bool s) := CX.out.cell 0
  have CX1 : wa.cell? ⟨w.heap.size, 1, none⟩ = some (.slice A x0.length c) := CX.out.cell 1
  have CX2 : wa.cell? ⟨w.heap.size, 2, none⟩ = some (.slice B y0.length d) := CX.out.cell 2
  refine (few3_is s A B c d x0 y0 xs ys _ F.out.1 F.out.2.1 F.out.2.2.1 F.out.2.2.2).mono ?_
  rintro e w1 ⟨rfl, hbl⟩
  replace R1 := Lib.hid (R1.out.below hbl)
  replace R2 := Lib.hid (R2.out.below hbl)
  replace CX := Lib.hid (CX.out.below hbl CX.out.lt)
  replace HW := Lib.hid (bel_trans HW.out hbl); clear hbl
  clear CX0 CX1 CX2
  have CX0 : w1.cell? ⟨w.heap.size, 0, none⟩ = some (.bool s) := CX.out.cell 0
  have CX1 : w1.cell? ⟨w.heap.size, 1, none⟩ = some (.slice A x0.length c) := CX.out.cell 1
  have CX2 : w1.cell? ⟨w.heap.size, 2, none⟩ = some (.slice B y0.length d) := CX.out.cell 2
  have pd0 := CX.out.cell 0
  have pf0 := CX.out.frozen 0
  have pd1 := CX.out.cell 1
  have pf1 := CX.out.frozen 1
  have pd2 := CX.out.cell 2
  have pf2 := CX.out.frozen 2
  go_upto_region 2 with fail
  clear pd0 pf0 pd1 pf1 pd2 pf2
  obtain ⟨wf, hwf⟩ : ∃ wf, wf = (((w1.setCell ⟨w.heap.size, 0, none⟩ (.bool s)).setCell ⟨w.heap.size, 1, none⟩ (.slice A xs.length c)).setCell ⟨w.heap.size, 2, none⟩ (.slice B ys.length d)) := ⟨_, rfl⟩
  rw [← hwf]
  replace R1 := Lib.hid (show RdL wf _ _ by rw [hwf]; exact RdL.set3 (CX.out) (R1.out) _ _ _)
  replace R2 := Lib.hid (show RdL wf _ _ by rw [hwf]; exact RdL.set3 (CX.out) (R2.out) _ _ _)
  have CX_ := Lib.hid (show Blk wf (w.heap.size) 25 #[.bool s, .slice A xs.length c, .slice B ys.length d] by rw [hwf]; exact (((CX.out).put 0 (.bool s)).put 1 (.slice A xs.length c)).put 2 (.slice B ys.length d))
  replace CX := CX_; clear CX_
  replace HW := Lib.hid (show Below w.heap.size w wf by rw [hwf]; exact bel_set (p := ⟨w.heap.size, 2, none⟩) (bel_set (p := ⟨w.heap.size, 1, none⟩) (bel_set (p := ⟨w.heap.size, 0, none⟩) (HW.out) (by show w.heap.size ≤ w.heap.size; omega) _) (by show w.heap.size ≤ w.heap.size; omega) _) (by show w.heap.size ≤ w.heap.size; omega) _)
  clear hwf
  clear CX0 CX1 CX2
  have CX0 : wf.cell? ⟨w.heap.size, 0, none⟩ = some (.bool s) := CX.out.cell 0
  have CX1 : wf.cell? ⟨w.heap.size, 1, none⟩ = some (.slice A xs.length c) := CX.out.cell 1
  have CX2 : wf.cell? ⟨w.heap.size, 2, none⟩ = some (.slice B ys.length d) := CX.out.cell 2
  go_wp2_with fail
  refine (HV1.out _).mono ?_
  rintro e w2 ⟨va, vb, rfl, hna, hnb, hbl⟩
  replace R1 := Lib.hid (R1.out.below hbl)
  replace R2 := Lib.hid (R2.out.below hbl)
  replace CX := Lib.hid (CX.out.below hbl CX.out.lt)
  replace HW := Lib.hid (bel_trans HW.out hbl); clear hbl
  clear CX0 CX1 CX2
  have CX0 : w2.cell? ⟨w.heap.size, 0, none⟩ = some (.bool s) := CX.out.cell 0
  have CX1 : w2.cell? ⟨w.heap.size, 1, none⟩ = some (.slice A xs.length c) := CX.out.cell 1
  have CX2 : w2.cell? ⟨w.heap.size, 2, none⟩ = some (.slice B ys.length d) := CX.out.cell 2
  have HNa := Lib.hid hna; clear hna
  obtain ⟨Aa, ca, rfl, hca, hra⟩ := HNa.out.row
  have Ra := Lib.hid hra; have HCa := Lib.hid hca; clear hra hca
  have HNb := Lib.hid hnb; clear hnb
  obtain ⟨Ab, cb, rfl, hcb, hrb⟩ := HNb.out.row
  have Rb := Lib.hid hrb; have HCb := Lib.hid hcb; clear hrb hcb
  go_upto_region 3 with fail
  obtain ⟨wx, hwx⟩ : ∃ wx, wx = w2.alloc (.cells #[.bool q1.s, .slice Aa (limbs q1.n).length ca, .slice Ab (limbs q1.d).length cb] 25) := ⟨_, rfl⟩
  rw [← hwx]
  have hbl : Below w2.heap.size w2 wx := by rw [hwx]; exact bel_alloc (bel_refl _) _
  have VX : Blk wx (w2.heap.size) 25 #[.bool q1.s, .slice Aa (limbs q1.n).length ca, .slice Ab (limbs q1.d).length cb] := by
    have hz := Blk.new (w2) 25 #[.bool q1.s, .slice Aa (limbs q1.n).length ca, .slice Ab (limbs q1.d).length cb]
    rw [hwx]
    exact hz
  clear hwx
  replace R1 := Lib.hid (R1.out.below hbl)
  replace R2 := Lib.hid (R2.out.below hbl)
  replace Ra := Lib.hid (Ra.out.below hbl)
  replace HNa := Lib.hid (HNa.out.below hbl)
  replace Rb := Lib.hid (Rb.out.below hbl)
  replace HNb := Lib.hid (HNb.out.below hbl)
  replace CX := Lib.hid (CX.out.below hbl CX.out.lt)
  replace HW := Lib.hid (bel_trans HW.out hbl); clear hbl
  replace VX := Lib.hid VX
  clear CX0 CX1 CX2
  have CX0 : wx.cell? ⟨w.heap.size, 0, none⟩ = some (.bool s) := CX.out.cell 0
  have CX1 : wx.cell? ⟨w.heap.size, 1, none⟩ = some (.slice A xs.length c) := CX.out.cell 1
  have CX2 : wx.cell? ⟨w.heap.size, 2, none⟩ = some (.slice B ys.length d) := CX.out.cell 2
  have VX0 : wx.cell? ⟨w2.heap.size, 0, none⟩ = some (.bool q1.s) := VX.out.cell 0
  have VX1 : wx.cell? ⟨w2.heap.size, 1, none⟩ = some (.slice Aa (limbs q1.n).length ca) := VX.out.cell 1
  have VX2 : wx.cell? ⟨w2.heap.size, 2, none⟩ = some (.slice Ab (limbs q1.d).length cb) := VX.out.cell 2
  go_wp2_with fail
  refine (HB1.out _ Aa Ab ca cb Ra.out Rb.out HCa.out HCb.out).mono ?_
  rintro e w3 ⟨rfl, hbl⟩
  replace R1 := Lib.hid (R1.out.below hbl)
  replace R2 := Lib.hid (R2.out.below hbl)
  replace Ra := Lib.hid (Ra.out.below hbl)
  replace HNa := Lib.hid (HNa.out.below hbl)
  replace Rb := Lib.hid (Rb.out.below hbl)
  replace HNb := Lib.hid (HNb.out.below hbl)
  replace CX := Lib.hid (CX.out.below hbl CX.out.lt)
  replace VX := Lib.hid (VX.out.below hbl VX.out.lt)
  replace HW := Lib.hid (bel_trans HW.out hbl); clear hbl
  clear CX0 CX1 CX2 VX0 VX1 VX2
  have CX0 : w3.cell? ⟨w.heap.size, 0, none⟩ = some (.bool s) := CX.out.cell 0
  have CX1 : w3.cell? ⟨w.heap.size, 1, none⟩ = some (.slice A xs.length c) := CX.out.cell 1
  have CX2 : w3.cell? ⟨w.heap.size, 2, none⟩ = some (.slice B ys.length d) := CX.out.cell 2
  have VX0 : w3.cell? ⟨w2.heap.size, 0, none⟩ = some (.bool q1.s) := VX.out.cell 0
  have VX1 : w3.cell? ⟨w2.heap.size, 1, none⟩ = some (.slice Aa (limbs q1.n).length ca) := VX.out.cell 1
  have VX2 : w3.cell? ⟨w2.heap.size, 2, none⟩ = some (.slice Ab (limbs q1.d).length cb) := VX.out.cell 2
  go_wp2_with fail
  refine (ratRight_q q1 Aa Ab ca cb _ Ra.out Rb.out HCa.out HCb.out HQ1.out.1 HQ1.out.2.1 HQ1.out.2.2).mono ?_
  rintro e w4 ⟨rfl, hbl⟩
  replace R1 := Lib.hid (R1.out.below hbl)
  replace R2 := Lib.hid (R2.out.below hbl)
  replace Ra := Lib.hid (Ra.out.below hbl)
  replace HNa := Lib.hid (HNa.out.below hbl)
  replace Rb := Lib.hid (Rb.out.below hbl)
  replace HNb := Lib.hid (HNb.out.below hbl)
  replace CX := Lib.hid (CX.out.below hbl CX.out.lt)
  replace VX := Lib.hid (VX.out.below hbl VX.out.lt)
  replace HW := Lib.hid (bel_trans HW.out hbl); clear hbl
  clear CX0 CX1 CX2 VX0 VX1 VX2
  have CX0 : w4.cell? ⟨w.heap.size, 0, none⟩ = some (.bool s) := CX.out.cell 0
  have CX1 : w4.cell? ⟨w.heap.size, 1, none⟩ = some (.slice A xs.length c) := CX.out.cell 1
  have CX2 : w4.cell? ⟨w.heap.size, 2, none⟩ = some (.slice B ys.length d) := CX.out.cell 2
  have VX0 : w4.cell? ⟨w2.heap.size, 0, none⟩ = some (.bool q1.s) := VX.out.cell 0
  have VX1 : w4.cell? ⟨w2.heap.size, 1, none⟩ = some (.slice Aa (limbs q1.n).length ca) := VX.out.cell 1
  have VX2 : w4.cell? ⟨w2.heap.size, 2, none⟩ = some (.slice Ab (limbs q1.d).length cb) := VX.out.cell 2
  go_wp2_with fail
  refine (HB2.out _ R1.out R2.out).mono ?_
  rintro e w5 ⟨rfl, hbl⟩
  replace R1 := Lib.hid (R1.out.below hbl)
  replace R2 := Lib.hid (R2.out.below hbl)
  replace Ra := Lib.hid (Ra.out.below hbl)
  replace HNa := Lib.hid (HNa.out.below hbl)
  replace Rb := Lib.hid (Rb.out.below hbl)
  replace HNb := Lib.hid (HNb.out.below hbl)
  replace CX := Lib.hid (CX.out.below hbl CX.out.lt)
  replace VX := Lib.hid (VX.out.below hbl VX.out.lt)
  replace HW := Lib.hid (bel_trans HW.out hbl); clear hbl
  clear CX0 CX1 CX2 VX0 VX1 VX2
  have CX0 : w5.cell? ⟨w.heap.size, 0, none⟩ = some (.bool s) := CX.out.cell 0
  have CX1 : w5.cell? ⟨w.heap.size, 1, none⟩ = some (.slice A xs.length c) := CX.out.cell 1
  have CX2 : w5.cell? ⟨w.heap.size, 2, none⟩ = some (.slice B ys.length d) := CX.out.cell 2
  have VX0 : w5.cell? ⟨w2.heap.size, 0, none⟩ = some (.bool q1.s) := VX.out.cell 0
  have VX1 : w5.cell? ⟨w2.heap.size, 1, none⟩ = some (.slice Aa (limbs q1.n).length ca) := VX.out.cell 1
  have VX2 : w5.cell? ⟨w2.heap.size, 2, none⟩ = some (.slice Ab (limbs q1.d).length cb) := VX.out.cell 2
  go_wp2_with fail
  refine (HV2.out _).mono ?_
  rintro e w6 ⟨vg, vh, rfl, hng, hnh, hbl⟩
  replace R1 := Lib.hid (R1.out.below hbl)
  replace R2 := Lib.hid (R2.out.below hbl)
  replace Ra := Lib.hid (Ra.out.below hbl)
  replace HNa := Lib.hid (HNa.out.below hbl)
  replace Rb := Lib.hid (Rb.out.below hbl)
  replace HNb := Lib.hid (HNb.out.below hbl)
  replace CX := Lib.hid (CX.out.below hbl CX.out.lt)
  replace VX := Lib.hid (VX.out.below hbl VX.out.lt)
  replace HW := Lib.hid (bel_trans HW.out hbl); clear hbl
  clear CX0 CX1 CX2 VX0 VX1 VX2
  have CX0 : w6.cell? ⟨w.heap.size, 0, none⟩ = some (.bool s) := CX.out.cell 0
  have CX1 : w6.cell? ⟨w.heap.size, 1, none⟩ = some (.slice A xs.length c) := CX.out.cell 1
  have CX2 : w6.cell? ⟨w.heap.size, 2, none⟩ = some (.slice B ys.length d) := CX.out.cell 2
  have VX0 : w6.cell? ⟨w2.heap.size, 0, none⟩ = some (.bool q1.s) := VX.out.cell 0
  have VX1 : w6.cell? ⟨w2.heap.size, 1, none⟩ = some (.slice Aa (limbs q1.n).length ca) := VX.out.cell 1
  have VX2 : w6.cell? ⟨w2.heap.size, 2, none⟩ = some (.slice Ab (limbs q1.d).length cb) := VX.out.cell 2
  have HNg := Lib.hid hng; clear hng
  obtain ⟨Ag, cg, rfl, hcg, hrg⟩ := HNg.out.row
  have Rg := Lib.hid hrg; have HCg := Lib.hid hcg; clear hrg hcg
  have HNh := Lib.hid hnh; clear hnh
  obtain ⟨Ah, ch, rfl, hch, hrh⟩ := HNh.out.row
  have Rh := Lib.hid hrh; have HCh := Lib.hid hch; clear hrh hch
  go_upto_region 11 with fail
  obtain ⟨wy, hwy⟩ : ∃ wy, wy = w6.alloc (.cells #[.bool q2.s, .slice Ag (limbs q2.n).length cg, .slice Ah (limbs q2.d).length ch] 25) := ⟨_, rfl⟩
  rw [← hwy]
  have hbl : Below w6.heap.size w6 wy := by rw [hwy]; exact bel_alloc (bel_refl _) _
  have VY : Blk wy (w6.heap.size) 25 #[.bool q2.s, .slice Ag (limbs q2.n).length cg, .slice Ah (limbs q2.d).length ch] := by
    have hz := Blk.new (w6) 25 #[.bool q2.s, .slice Ag (limbs q2.n).length cg, .slice Ah (limbs q2.d).length ch]
    rw [hwy]
    exact hz
  clear hwy
  replace R1 := Lib.hid (R1.out.below hbl)
  replace R2 := Lib.hid (R2.out.below hbl)
  replace Ra := Lib.hid (Ra.out.below hbl)
  replace HNa := Lib.hid (HNa.out.below hbl)
  replace Rb := Lib.hid (Rb.out.below hbl)
  replace HNb := Lib.hid (HNb.out.below hbl)
  replace Rg := Lib.hid (Rg.out.below hbl)
  replace HNg := Lib.hid (HNg.out.below hbl)
  replace Rh := Lib.hid (Rh.out.below hbl)
  replace HNh := Lib.hid (HNh.out.below hbl)
  replace CX := Lib.hid (CX.out.below hbl CX.out.lt)
  replace VX := Lib.hid (VX.out.below hbl VX.out.lt)
  replace HW := Lib.hid (bel_trans HW.out hbl); clear hbl
  replace VY := Lib.hid VY
  clear CX0 CX1 CX2 VX0 VX1 VX2
  have CX0 : wy.cell? ⟨w.heap.size, 0, none⟩ = some (.bool s) := CX.out.cell 0
  have CX1 : wy.cell? ⟨w.heap.size, 1, none⟩ = some (.slice A xs.length c) := CX.out.cell 1
  have CX2 : wy.cell? ⟨w.heap.size, 2, none⟩ = some (.slice B ys.length d) := CX.out.cell 2
  have VX0 : wy.cell? ⟨w2.heap.size, 0, none⟩ = some (.bool q1.s) := VX.out.cell 0
  have VX1 : wy.cell? ⟨w2.heap.size, 1, none⟩ = some (.slice Aa (limbs q1.n).length ca) := VX.out.cell 1
  have VX2 : wy.cell? ⟨w2.heap.size, 2, none⟩ = some (.slice Ab (limbs q1.d).length cb) := VX.out.cell 2
  have VY0 : wy.cell? ⟨w6.heap.size, 0, none⟩ = some (.bool q2.s) := VY.out.cell 0
  have VY1 : wy.cell? ⟨w6.heap.size, 1, none⟩ = some (.slice Ag (limbs q2.n).length cg) := VY.out.cell 1
  have VY2 : wy.cell? ⟨w6.heap.size, 2, none⟩ = some (.slice Ah (limbs q2.d).length ch) := VY.out.cell 2
  go_wp2_with fail
  refine (alive3 _).mono ?_
  rintro e w7 ⟨rfl, hbl⟩
  replace R1 := Lib.hid (R1.out.below hbl)
  replace R2 := Lib.hid (R2.out.below hbl)
  replace Ra := Lib.hid (Ra.out.below hbl)
  replace HNa := Lib.hid (HNa.out.below hbl)
  replace Rb := Lib.hid (Rb.out.below hbl)
  replace HNb := Lib.hid (HNb.out.below hbl)
  replace Rg := Lib.hid (Rg.out.below hbl)
  replace HNg := Lib.hid (HNg.out.below hbl)
  replace Rh := Lib.hid (Rh.out.below hbl)
  replace HNh := Lib.hid (HNh.out.below hbl)
  replace CX := Lib.hid (CX.out.below hbl CX.out.lt)
  replace VX := Lib.hid (VX.out.below hbl VX.out.lt)
  replace VY := Lib.hid (VY.out.below hbl VY.out.lt)
  replace HW := Lib.hid (bel_trans HW.out hbl); clear hbl
  clear CX0 CX1 CX2 VX0 VX1 VX2 VY0 VY1 VY2
  have CX0 : w7.cell? ⟨w.heap.size, 0, none⟩ = some (.bool s) := CX.out.cell 0
  have CX1 : w7.cell? ⟨w.heap.size, 1, none⟩ = some (.slice A xs.length c) := CX.out.cell 1
  have CX2 : w7.cell? ⟨w.heap.size, 2, none⟩ = some (.slice B ys.length d) := CX.out.cell 2
  have VX0 : w7.cell? ⟨w2.heap.size, 0, none⟩ = some (.bool q1.s) := VX.out.cell 0
  have VX1 : w7.cell? ⟨w2.heap.size, 1, none⟩ = some (.slice Aa (limbs q1.n).length ca) := VX.out.cell 1
  have VX2 : w7.cell? ⟨w2.heap.size, 2, none⟩ = some (.slice Ab (limbs q1.d).length cb) := VX.out.cell 2
  have VY0 : w7.cell? ⟨w6.heap.size, 0, none⟩ = some (.bool q2.s) := VY.out.cell 0
  have VY1 : w7.cell? ⟨w6.heap.size, 1, none⟩ = some (.slice Ag (limbs q2.n).length cg) := VY.out.cell 1
  have VY2 : w7.cell? ⟨w6.heap.size, 2, none⟩ = some (.slice Ah (limbs q2.d).length ch) := VY.out.cell 2
  go_wp2
  go_ret
  exact ⟨rfl, HW.out⟩

set_option maxRecDepth 100000 in
set_option maxHeartbeats 1000000 in
theorem back3_ys {q1 : Q} {u : Nat} {x : Bool} {q2 : Q} (N : Nat) (s : Bool) (A B : Option Addr) (c d : Nat) (x0 y0 xs ys : List Nat) (sz : Int) (w : World) (h1 : RdL w A x0) (h2 : RdL w B y0) (k1 : x0.length ≤ c) (k2 : y0.length ≤ d) (m1 : Lim x0) (m2 : Lim y0) (e1 : few x0 = xs) (e2 : few y0 = ys) (hv1 : ∀ w1, Calls Try.prog 47 #[.int .u64 (N : Int), .int .i64 sz] w1 (RetQE q1 0 w1)) (t1 : q1.n < Top) (t2 : q1.d < Top) (hq1 : QR q1) (hb1 : ∀ w1 A1 B1 c1 d1, RdL w1 A1 (limbs q1.n) → RdL w1 B1 (limbs q1.d) → (limbs q1.n).length ≤ c1 → (limbs q1.d).length ≤ d1 → Calls Try.prog 12 #[.agg #[.bool q1.s, .slice A1 (limbs q1.n).length c1, .slice B1 (limbs q1.d).length d1], .int .i64 sz] w1 (RetBits N true 0 w1)) (hb2 : ∀ w1, RdL w1 A xs → RdL w1 B ys → Calls Try.prog 12 #[.agg #[.bool s, .slice A xs.length c, .slice B ys.length d], .int .i64 sz] w1 (RetBits u x 0 w1)) (hv2 : ∀ w1, Calls Try.prog 47 #[.int .u64 (u : Int), .int .i64 sz] w1 (RetQE q2 0 w1)) (hl : likeB q2.s s (limbs q2.n) (limbs q2.d) xs ys = x) (t3 : q2.n < Top) (t4 : q2.d < Top) :
    Calls Try.prog 10 #[.int .u64 (N : Int), .agg #[.bool s, .slice A x0.length c, .slice B y0.length d], .int .i64 sz] w (RetT w) := by
  have HV1 := Lib.hid hv1; clear hv1
  have HB1 := Lib.hid hb1; clear hb1
  have HQ1 := Lib.hid (And.intro t1 (And.intro t2 hq1)); clear t1 t2 hq1
  have HB2 := Lib.hid hb2; clear hb2
  have HV2 := Lib.hid hv2; clear hv2
  have HL := Lib.hid (And.intro hl (And.intro t3 t4)); clear hl t3 t4
  have R1 := Lib.hid (show RdL w A xs by rw [← e1]; exact h1.take 18); clear h1
  have R2 := Lib.hid (show RdL w B ys by rw [← e2]; exact h2.take 18); clear h2
  have L18 := Lib.hid (show xs.length ≤ 18 ∧ ys.length ≤ 18 by rw [← e1, ← e2]; exact ⟨few_le _, few_le _⟩)
  have KC := Lib.hid (show xs.length ≤ c ∧ ys.length ≤ d by rw [← e1, ← e2]; exact ⟨Nat.le_trans (few_short _) k1, Nat.le_trans (few_short _) k2⟩)
  have M := Lib.hid (show Lim xs ∧ Lim ys by rw [← e1, ← e2]; exact ⟨few_lim m1, few_lim m2⟩); clear m1 m2
  have F := Lib.hid (And.intro k1 (And.intro k2 (And.intro e1 e2))); clear k1 k2 e1 e2
  obtain ⟨wa, hwa⟩ : ∃ wa, wa = w.alloc (.cells #[.bool s, .slice A x0.length c, .slice B y0.length d] 25) := ⟨_, rfl⟩
  have hbl : Below w.heap.size w wa := by rw [hwa]; exact bel_alloc (bel_refl _) _
  have CX : Blk wa (w.heap.size) 25 #[.bool s, .slice A x0.length c, .slice B y0.length d] := by
    have hz := Blk.new (w) 25 #[.bool s, .slice A x0.length c, .slice B y0.length d]
    rw [hwa]
    exact hz
  replace R1 := Lib.hid (R1.out.below hbl)
  replace R2 := Lib.hid (R2.out.below hbl)
  have HW := Lib.hid hbl; clear hbl
  replace CX := Lib.hid CX
  go_enter Try.func10, Try.ntmps10
  go_wp2_with fail
  rw [← hwa]
  clear hwa
  have CX0 : wa.cell? ⟨w.heap.size, 0, none⟩ = some (.bool s) := CX.out.cell 0
  have CX1 : wa.cell? ⟨w.heap.size, 1, none⟩ = some (.slice A x0.length c) := CX.out.cell 1
  have CX2 : wa.cell? ⟨w.heap.size, 2, none⟩ = some (.slice B y0.length d) := CX.out.cell 2
  refine (few3_is s A B c d x0 y0 xs ys _ F.out.1 F.out.2.1 F.out.2.2.1 F.out.2.2.2).mono ?_
  rintro e w1 ⟨rfl, hbl⟩
  replace R1 := Lib.hid (R1.out.below hbl)
  replace R2 := Lib.hid (R2.out.below hbl)
  replace CX := Lib.hid (CX.out.below hbl CX.out.lt)
  replace HW := Lib.hid (bel_trans HW.out hbl); clear hbl
  clear CX0 CX1 CX2
  have CX0 : w1.cell? ⟨w.heap.size, 0, none⟩ = some (.bool s) := CX.out.cell 0
  have CX1 : w1.cell? ⟨w.heap.size, 1, none⟩ = some (.slice A x0.length c) := CX.out.cell 1
  have CX2 : w1.cell? ⟨w.heap.size, 2, none⟩ = some (.slice B y0.length d) := CX.out.cell 2
  have pd0 := CX.out.cell 0
  have pf0 := CX.out.frozen 0
  have pd1 := CX.out.cell 1
  have pf1 := CX.out.frozen 1
  have pd2 := CX.out.cell 2
  have pf2 := CX.out.frozen 2
  go_upto_region 2 with fail
  clear pd0 pf0 pd1 pf1 pd2 pf2
  obtain ⟨wf, hwf⟩ : ∃ wf, wf = (((w1.setCell ⟨w.heap.size, 0, none⟩ (.bool s)).setCell ⟨w.heap.size, 1, none⟩ (.slice A xs.length c)).setCell ⟨w.heap.size, 2, none⟩ (.slice B ys.length d)) := ⟨_, rfl⟩
  rw [← hwf]
  replace R1 := Lib.hid (show RdL wf _ _ by rw [hwf]; exact RdL.set3 (CX.out) (R1.out) _ _ _)
  replace R2 := Lib.hid (show RdL wf _ _ by rw [hwf]; exact RdL.set3 (CX.out) (R2.out) _ _ _)
  have CX_ := Lib.hid (show Blk wf (w.heap.size) 25 #[.bool s, .slice A xs.length c, .slice B ys.length d] by rw [hwf]; exact (((CX.out).put 0 (.bool s)).put 1 (.slice A xs.length c)).put 2 (.slice B ys.length d))
  replace CX := CX_; clear CX_
  replace HW := Lib.hid (show Below w.heap.size w wf by rw [hwf]; exact bel_set (p := ⟨w.heap.size, 2, none⟩) (bel_set (p := ⟨w.heap.size, 1, none⟩) (bel_set (p := ⟨w.heap.size, 0, none⟩) (HW.out) (by show w.heap.size ≤ w.heap.size; omega) _) (by show w.heap.size ≤ w.heap.size; omega) _) (by show w.heap.size ≤ w.heap.size; omega) _)
  clear hwf
  clear CX0 CX1 CX2
  have CX0 : wf.cell? ⟨w.heap.size, 0, none⟩ = some (.bool s) := CX.out.cell 0
  have CX1 : wf.cell? ⟨w.heap.size, 1, none⟩ = some (.slice A xs.length c) := CX.out.cell 1
  have CX2 : wf.cell? ⟨w.heap.size, 2, none⟩ = some (.slice B ys.length d) := CX.out.cell 2
  go_wp2_with fail
  refine (HV1.out _).mono ?_
  rintro e w2 ⟨va, vb, rfl, hna, hnb, hbl⟩
  replace R1 := Lib.hid (R1.out.below hbl)
  replace R2 := Lib.hid (R2.out.below hbl)
  replace CX := Lib.hid (CX.out.below hbl CX.out.lt)
  replace HW := Lib.hid (bel_trans HW.out hbl); clear hbl
  clear CX0 CX1 CX2
  have CX0 : w2.cell? ⟨w.heap.size, 0, none⟩ = some (.bool s) := CX.out.cell 0
  have CX1 : w2.cell? ⟨w.heap.size, 1, none⟩ = some (.slice A xs.length c) := CX.out.cell 1
  have CX2 : w2.cell? ⟨w.heap.size, 2, none⟩ = some (.slice B ys.length d) := CX.out.cell 2
  have HNa := Lib.hid hna; clear hna
  obtain ⟨Aa, ca, rfl, hca, hra⟩ := HNa.out.row
  have Ra := Lib.hid hra; have HCa := Lib.hid hca; clear hra hca
  have HNb := Lib.hid hnb; clear hnb
  obtain ⟨Ab, cb, rfl, hcb, hrb⟩ := HNb.out.row
  have Rb := Lib.hid hrb; have HCb := Lib.hid hcb; clear hrb hcb
  go_upto_region 3 with fail
  obtain ⟨wx, hwx⟩ : ∃ wx, wx = w2.alloc (.cells #[.bool q1.s, .slice Aa (limbs q1.n).length ca, .slice Ab (limbs q1.d).length cb] 25) := ⟨_, rfl⟩
  rw [← hwx]
  have hbl : Below w2.heap.size w2 wx := by rw [hwx]; exact bel_alloc (bel_refl _) _
  have VX : Blk wx (w2.heap.size) 25 #[.bool q1.s, .slice Aa (limbs q1.n).length ca, .slice Ab (limbs q1.d).length cb] := by
    have hz := Blk.new (w2) 25 #[.bool q1.s, .slice Aa (limbs q1.n).length ca, .slice Ab (limbs q1.d).length cb]
    rw [hwx]
    exact hz
  clear hwx
  replace R1 := Lib.hid (R1.out.below hbl)
  replace R2 := Lib.hid (R2.out.below hbl)
  replace Ra := Lib.hid (Ra.out.below hbl)
  replace HNa := Lib.hid (HNa.out.below hbl)
  replace Rb := Lib.hid (Rb.out.below hbl)
  replace HNb := Lib.hid (HNb.out.below hbl)
  replace CX := Lib.hid (CX.out.below hbl CX.out.lt)
  replace HW := Lib.hid (bel_trans HW.out hbl); clear hbl
  replace VX := Lib.hid VX
  clear CX0 CX1 CX2
  have CX0 : wx.cell? ⟨w.heap.size, 0, none⟩ = some (.bool s) := CX.out.cell 0
  have CX1 : wx.cell? ⟨w.heap.size, 1, none⟩ = some (.slice A xs.length c) := CX.out.cell 1
  have CX2 : wx.cell? ⟨w.heap.size, 2, none⟩ = some (.slice B ys.length d) := CX.out.cell 2
  have VX0 : wx.cell? ⟨w2.heap.size, 0, none⟩ = some (.bool q1.s) := VX.out.cell 0
  have VX1 : wx.cell? ⟨w2.heap.size, 1, none⟩ = some (.slice Aa (limbs q1.n).length ca) := VX.out.cell 1
  have VX2 : wx.cell? ⟨w2.heap.size, 2, none⟩ = some (.slice Ab (limbs q1.d).length cb) := VX.out.cell 2
  go_wp2_with fail
  refine (HB1.out _ Aa Ab ca cb Ra.out Rb.out HCa.out HCb.out).mono ?_
  rintro e w3 ⟨rfl, hbl⟩
  replace R1 := Lib.hid (R1.out.below hbl)
  replace R2 := Lib.hid (R2.out.below hbl)
  replace Ra := Lib.hid (Ra.out.below hbl)
  replace HNa := Lib.hid (HNa.out.below hbl)
  replace Rb := Lib.hid (Rb.out.below hbl)
  replace HNb := Lib.hid (HNb.out.below hbl)
  replace CX := Lib.hid (CX.out.below hbl CX.out.lt)
  replace VX := Lib.hid (VX.out.below hbl VX.out.lt)
  replace HW := Lib.hid (bel_trans HW.out hbl); clear hbl
  clear CX0 CX1 CX2 VX0 VX1 VX2
  have CX0 : w3.cell? ⟨w.heap.size, 0, none⟩ = some (.bool s) := CX.out.cell 0
  have CX1 : w3.cell? ⟨w.heap.size, 1, none⟩ = some (.slice A xs.length c) := CX.out.cell 1
  have CX2 : w3.cell? ⟨w.heap.size, 2, none⟩ = some (.slice B ys.length d) := CX.out.cell 2
  have VX0 : w3.cell? ⟨w2.heap.size, 0, none⟩ = some (.bool q1.s) := VX.out.cell 0
  have VX1 : w3.cell? ⟨w2.heap.size, 1, none⟩ = some (.slice Aa (limbs q1.n).length ca) := VX.out.cell 1
  have VX2 : w3.cell? ⟨w2.heap.size, 2, none⟩ = some (.slice Ab (limbs q1.d).length cb) := VX.out.cell 2
  go_wp2_with fail
  refine (ratRight_q q1 Aa Ab ca cb _ Ra.out Rb.out HCa.out HCb.out HQ1.out.1 HQ1.out.2.1 HQ1.out.2.2).mono ?_
  rintro e w4 ⟨rfl, hbl⟩
  replace R1 := Lib.hid (R1.out.below hbl)
  replace R2 := Lib.hid (R2.out.below hbl)
  replace Ra := Lib.hid (Ra.out.below hbl)
  replace HNa := Lib.hid (HNa.out.below hbl)
  replace Rb := Lib.hid (Rb.out.below hbl)
  replace HNb := Lib.hid (HNb.out.below hbl)
  replace CX := Lib.hid (CX.out.below hbl CX.out.lt)
  replace VX := Lib.hid (VX.out.below hbl VX.out.lt)
  replace HW := Lib.hid (bel_trans HW.out hbl); clear hbl
  clear CX0 CX1 CX2 VX0 VX1 VX2
  have CX0 : w4.cell? ⟨w.heap.size, 0, none⟩ = some (.bool s) := CX.out.cell 0
  have CX1 : w4.cell? ⟨w.heap.size, 1, none⟩ = some (.slice A xs.length c) := CX.out.cell 1
  have CX2 : w4.cell? ⟨w.heap.size, 2, none⟩ = some (.slice B ys.length d) := CX.out.cell 2
  have VX0 : w4.cell? ⟨w2.heap.size, 0, none⟩ = some (.bool q1.s) := VX.out.cell 0
  have VX1 : w4.cell? ⟨w2.heap.size, 1, none⟩ = some (.slice Aa (limbs q1.n).length ca) := VX.out.cell 1
  have VX2 : w4.cell? ⟨w2.heap.size, 2, none⟩ = some (.slice Ab (limbs q1.d).length cb) := VX.out.cell 2
  go_wp2_with fail
  refine (HB2.out _ R1.out R2.out).mono ?_
  rintro e w5 ⟨rfl, hbl⟩
  replace R1 := Lib.hid (R1.out.below hbl)
  replace R2 := Lib.hid (R2.out.below hbl)
  replace Ra := Lib.hid (Ra.out.below hbl)
  replace HNa := Lib.hid (HNa.out.below hbl)
  replace Rb := Lib.hid (Rb.out.below hbl)
  replace HNb := Lib.hid (HNb.out.below hbl)
  replace CX := Lib.hid (CX.out.below hbl CX.out.lt)
  replace VX := Lib.hid (VX.out.below hbl VX.out.lt)
  replace HW := Lib.hid (bel_trans HW.out hbl); clear hbl
  clear CX0 CX1 CX2 VX0 VX1 VX2
  have CX0 : w5.cell? ⟨w.heap.size, 0, none⟩ = some (.bool s) := CX.out.cell 0
  have CX1 : w5.cell? ⟨w.heap.size, 1, none⟩ = some (.slice A xs.length c) := CX.out.cell 1
  have CX2 : w5.cell? ⟨w.heap.size, 2, none⟩ = some (.slice B ys.length d) := CX.out.cell 2
  have VX0 : w5.cell? ⟨w2.heap.size, 0, none⟩ = some (.bool q1.s) := VX.out.cell 0
  have VX1 : w5.cell? ⟨w2.heap.size, 1, none⟩ = some (.slice Aa (limbs q1.n).length ca) := VX.out.cell 1
  have VX2 : w5.cell? ⟨w2.heap.size, 2, none⟩ = some (.slice Ab (limbs q1.d).length cb) := VX.out.cell 2
  go_wp2_with fail
  refine (HV2.out _).mono ?_
  rintro e w6 ⟨vg, vh, rfl, hng, hnh, hbl⟩
  replace R1 := Lib.hid (R1.out.below hbl)
  replace R2 := Lib.hid (R2.out.below hbl)
  replace Ra := Lib.hid (Ra.out.below hbl)
  replace HNa := Lib.hid (HNa.out.below hbl)
  replace Rb := Lib.hid (Rb.out.below hbl)
  replace HNb := Lib.hid (HNb.out.below hbl)
  replace CX := Lib.hid (CX.out.below hbl CX.out.lt)
  replace VX := Lib.hid (VX.out.below hbl VX.out.lt)
  replace HW := Lib.hid (bel_trans HW.out hbl); clear hbl
  clear CX0 CX1 CX2 VX0 VX1 VX2
  have CX0 : w6.cell? ⟨w.heap.size, 0, none⟩ = some (.bool s) := CX.out.cell 0
  have CX1 : w6.cell? ⟨w.heap.size, 1, none⟩ = some (.slice A xs.length c) := CX.out.cell 1
  have CX2 : w6.cell? ⟨w.heap.size, 2, none⟩ = some (.slice B ys.length d) := CX.out.cell 2
  have VX0 : w6.cell? ⟨w2.heap.size, 0, none⟩ = some (.bool q1.s) := VX.out.cell 0
  have VX1 : w6.cell? ⟨w2.heap.size, 1, none⟩ = some (.slice Aa (limbs q1.n).length ca) := VX.out.cell 1
  have VX2 : w6.cell? ⟨w2.heap.size, 2, none⟩ = some (.slice Ab (limbs q1.d).length cb) := VX.out.cell 2
  have HNg := Lib.hid hng; clear hng
  obtain ⟨Ag, cg, rfl, hcg, hrg⟩ := HNg.out.row
  have Rg := Lib.hid hrg; have HCg := Lib.hid hcg; clear hrg hcg
  have HNh := Lib.hid hnh; clear hnh
  obtain ⟨Ah, ch, rfl, hch, hrh⟩ := HNh.out.row
  have Rh := Lib.hid hrh; have HCh := Lib.hid hch; clear hrh hch
  go_upto_region 11 with fail
  obtain ⟨wy, hwy⟩ : ∃ wy, wy = w6.alloc (.cells #[.bool q2.s, .slice Ag (limbs q2.n).length cg, .slice Ah (limbs q2.d).length ch] 25) := ⟨_, rfl⟩
  rw [← hwy]
  have hbl : Below w6.heap.size w6 wy := by rw [hwy]; exact bel_alloc (bel_refl _) _
  have VY : Blk wy (w6.heap.size) 25 #[.bool q2.s, .slice Ag (limbs q2.n).length cg, .slice Ah (limbs q2.d).length ch] := by
    have hz := Blk.new (w6) 25 #[.bool q2.s, .slice Ag (limbs q2.n).length cg, .slice Ah (limbs q2.d).length ch]
    rw [hwy]
    exact hz
  clear hwy
  replace R1 := Lib.hid (R1.out.below hbl)
  replace R2 := Lib.hid (R2.out.below hbl)
  replace Ra := Lib.hid (Ra.out.below hbl)
  replace HNa := Lib.hid (HNa.out.below hbl)
  replace Rb := Lib.hid (Rb.out.below hbl)
  replace HNb := Lib.hid (HNb.out.below hbl)
  replace Rg := Lib.hid (Rg.out.below hbl)
  replace HNg := Lib.hid (HNg.out.below hbl)
  replace Rh := Lib.hid (Rh.out.below hbl)
  replace HNh := Lib.hid (HNh.out.below hbl)
  replace CX := Lib.hid (CX.out.below hbl CX.out.lt)
  replace VX := Lib.hid (VX.out.below hbl VX.out.lt)
  replace HW := Lib.hid (bel_trans HW.out hbl); clear hbl
  replace VY := Lib.hid VY
  clear CX0 CX1 CX2 VX0 VX1 VX2
  have CX0 : wy.cell? ⟨w.heap.size, 0, none⟩ = some (.bool s) := CX.out.cell 0
  have CX1 : wy.cell? ⟨w.heap.size, 1, none⟩ = some (.slice A xs.length c) := CX.out.cell 1
  have CX2 : wy.cell? ⟨w.heap.size, 2, none⟩ = some (.slice B ys.length d) := CX.out.cell 2
  have VX0 : wy.cell? ⟨w2.heap.size, 0, none⟩ = some (.bool q1.s) := VX.out.cell 0
  have VX1 : wy.cell? ⟨w2.heap.size, 1, none⟩ = some (.slice Aa (limbs q1.n).length ca) := VX.out.cell 1
  have VX2 : wy.cell? ⟨w2.heap.size, 2, none⟩ = some (.slice Ab (limbs q1.d).length cb) := VX.out.cell 2
  have VY0 : wy.cell? ⟨w6.heap.size, 0, none⟩ = some (.bool q2.s) := VY.out.cell 0
  have VY1 : wy.cell? ⟨w6.heap.size, 1, none⟩ = some (.slice Ag (limbs q2.n).length cg) := VY.out.cell 1
  have VY2 : wy.cell? ⟨w6.heap.size, 2, none⟩ = some (.slice Ah (limbs q2.d).length ch) := VY.out.cell 2
  go_wp2_with fail
  refine (alive3 _).mono ?_
  rintro e w7 ⟨rfl, hbl⟩
  replace R1 := Lib.hid (R1.out.below hbl)
  replace R2 := Lib.hid (R2.out.below hbl)
  replace Ra := Lib.hid (Ra.out.below hbl)
  replace HNa := Lib.hid (HNa.out.below hbl)
  replace Rb := Lib.hid (Rb.out.below hbl)
  replace HNb := Lib.hid (HNb.out.below hbl)
  replace Rg := Lib.hid (Rg.out.below hbl)
  replace HNg := Lib.hid (HNg.out.below hbl)
  replace Rh := Lib.hid (Rh.out.below hbl)
  replace HNh := Lib.hid (HNh.out.below hbl)
  replace CX := Lib.hid (CX.out.below hbl CX.out.lt)
  replace VX := Lib.hid (VX.out.below hbl VX.out.lt)
  replace VY := Lib.hid (VY.out.below hbl VY.out.lt)
  replace HW := Lib.hid (bel_trans HW.out hbl); clear hbl
  clear CX0 CX1 CX2 VX0 VX1 VX2 VY0 VY1 VY2
  have CX0 : w7.cell? ⟨w.heap.size, 0, none⟩ = some (.bool s) := CX.out.cell 0
  have CX1 : w7.cell? ⟨w.heap.size, 1, none⟩ = some (.slice A xs.length c) := CX.out.cell 1
  have CX2 : w7.cell? ⟨w.heap.size, 2, none⟩ = some (.slice B ys.length d) := CX.out.cell 2
  have VX0 : w7.cell? ⟨w2.heap.size, 0, none⟩ = some (.bool q1.s) := VX.out.cell 0
  have VX1 : w7.cell? ⟨w2.heap.size, 1, none⟩ = some (.slice Aa (limbs q1.n).length ca) := VX.out.cell 1
  have VX2 : w7.cell? ⟨w2.heap.size, 2, none⟩ = some (.slice Ab (limbs q1.d).length cb) := VX.out.cell 2
  have VY0 : w7.cell? ⟨w6.heap.size, 0, none⟩ = some (.bool q2.s) := VY.out.cell 0
  have VY1 : w7.cell? ⟨w6.heap.size, 1, none⟩ = some (.slice Ag (limbs q2.n).length cg) := VY.out.cell 1
  have VY2 : w7.cell? ⟨w6.heap.size, 2, none⟩ = some (.slice Ah (limbs q2.d).length ch) := VY.out.cell 2
  go_wp2_with fail
  refine (refSame_ok (b := x) q2.s s Ag Ah A B cg ch c d (limbs q2.n) (limbs q2.d) xs ys _ Rg.out R1.out (len18 HL.out.2.1) Rh.out R2.out (len18 HL.out.2.2) HL.out.1).mono ?_
  rintro e w8 ⟨rfl, hbl⟩
  replace R1 := Lib.hid (R1.out.below hbl)
  replace R2 := Lib.hid (R2.out.below hbl)
  replace Ra := Lib.hid (Ra.out.below hbl)
  replace HNa := Lib.hid (HNa.out.below hbl)
  replace Rb := Lib.hid (Rb.out.below hbl)
  replace HNb := Lib.hid (HNb.out.below hbl)
  replace Rg := Lib.hid (Rg.out.below hbl)
  replace HNg := Lib.hid (HNg.out.below hbl)
  replace Rh := Lib.hid (Rh.out.below hbl)
  replace HNh := Lib.hid (HNh.out.below hbl)
  replace CX := Lib.hid (CX.out.below hbl CX.out.lt)
  replace VX := Lib.hid (VX.out.below hbl VX.out.lt)
  replace VY := Lib.hid (VY.out.below hbl VY.out.lt)
  replace HW := Lib.hid (bel_trans HW.out hbl); clear hbl
  clear CX0 CX1 CX2 VX0 VX1 VX2 VY0 VY1 VY2
  have CX0 : w8.cell? ⟨w.heap.size, 0, none⟩ = some (.bool s) := CX.out.cell 0
  have CX1 : w8.cell? ⟨w.heap.size, 1, none⟩ = some (.slice A xs.length c) := CX.out.cell 1
  have CX2 : w8.cell? ⟨w.heap.size, 2, none⟩ = some (.slice B ys.length d) := CX.out.cell 2
  have VX0 : w8.cell? ⟨w2.heap.size, 0, none⟩ = some (.bool q1.s) := VX.out.cell 0
  have VX1 : w8.cell? ⟨w2.heap.size, 1, none⟩ = some (.slice Aa (limbs q1.n).length ca) := VX.out.cell 1
  have VX2 : w8.cell? ⟨w2.heap.size, 2, none⟩ = some (.slice Ab (limbs q1.d).length cb) := VX.out.cell 2
  have VY0 : w8.cell? ⟨w6.heap.size, 0, none⟩ = some (.bool q2.s) := VY.out.cell 0
  have VY1 : w8.cell? ⟨w6.heap.size, 1, none⟩ = some (.slice Ag (limbs q2.n).length cg) := VY.out.cell 1
  have VY2 : w8.cell? ⟨w6.heap.size, 2, none⟩ = some (.slice Ah (limbs q2.d).length ch) := VY.out.cell 2
  go_wp2
  go_ret
  exact ⟨rfl, HW.out⟩

/-- What Value answers. -/
structure VAns (N : Nat) (sz : Int) (Q : Q) (e : Int) : Prop where
  good : e = 0 → ∃ p q t b s, Fm sz p q t ∧ ¬ (t + q + 2) * 2 ^ (p - 1) ≤ b ∧ (b = 0 → s = false) ∧ N = b + s.toNat * 2 ^ (sz.toNat - 1) ∧ Q = valQ s p q b ∧ LN p q b < Top ∧ LD p q b < Top
  sure : ∀ {p q t b s}, Fm sz p q t → ¬ (t + q + 2) * 2 ^ (p - 1) ≤ b → (b = 0 → s = false) → N = b + s.toNat * 2 ^ (sz.toNat - 1) → e = 0 ∨ e = 2
theorem N_split {N Z : Nat} (h : N < 2 * Z) : ∃ (b : Nat) (s : Bool), b < Z ∧ N = b + s.toNat * Z := by
  by_cases h1 : N < Z
  · exact ⟨N, false, h1, by simp⟩
  · exact ⟨N - Z, true, by omega, by simp; omega⟩
theorem N_same {b b' Z : Nat} {s s' : Bool} (hb : b < Z) (hb' : b' < Z) (h : b + s.toNat * Z = b' + s'.toNat * Z) : b = b' ∧ s = s' := by
  cases s <;> cases s' <;> simp at h ⊢ <;> omega
theorem fit_sz {sz : Int} {p q t b : Nat} (hf : Fm sz p q t) (h : ¬ (t + q + 2) * 2 ^ (p - 1) ≤ b) : b < 2 ^ (sz.toNat - 1) := by
  have := hf.ok
  exact fit_code hf (z := sz.toNat - 1) (by omega) h
theorem val_ans (N : Nat) (sz : Int) (hN : N < 18446744073709551616) : ∃ Q e, VAns N sz Q e ∧ ∀ w1, Calls Try.prog 47 #[.int .u64 (N : Int), .int .i64 sz] w1 (RetQE Q e w1) := by
  rcases Fm.of sz with ⟨h32, h64⟩ | ⟨p, q, t, hf⟩
  · exact ⟨noQ, 1, ⟨fun h => absurd h (by decide), fun hf => by rcases hf with h | h; exact absurd h.1 h32; exact absurd h.1 h64⟩, fun w1 => rvalue_size N sz w1 h32 h64⟩
  have hz : (sz == 32) = true ∨ (sz == 32) = false := by cases (sz == 32) <;> simp
  have hsz : (sz == 32) = true → 2 ^ (sz.toNat - 1) = 2147483648 := fun h => by
    obtain rfl : sz = 32 := by simpa using h
    rfl
  have hsz2 : (sz == 32) = false → 2 ^ (sz.toNat - 1) = 9223372036854775808 := fun h => by
    rcases hf with h1 | h1
    · rw [h1.1] at h; cases h
    · rw [h1.1]; rfl
  by_cases hlong : (sz == 32) = true ∧ 4294967296 ≤ N
  · refine ⟨noQ, 1, ⟨fun h => absurd h (by decide), fun {p' q' t' b s} hf' hb hs hN' => ?_⟩, fun w1 => rvalue_long N sz p q t w1 hf hlong.1 hlong.2⟩
    exfalso
    have h1 := fit_sz hf' hb
    rw [hsz hlong.1] at h1 hN'
    cases s <;> simp at hN' <;> have := hlong.2 <;> omega
  have h32 : (sz == 32) = true → N < 4294967296 := fun h => by
    rcases Nat.lt_or_ge N 4294967296 with h1 | h1
    · exact h1
    · exact absurd ⟨h, h1⟩ hlong
  by_cases hm : N = 2 ^ (sz.toNat - 1)
  · refine ⟨noQ, 1, ⟨fun h => absurd h (by decide), fun {p' q' t' b s} hf' hb hs hN' => ?_⟩, fun w1 => ?_⟩
    · exfalso
      have h1 := fit_sz hf' hb
      generalize 2 ^ (sz.toNat - 1) = Z at *
      cases s
      · simp at hN'; omega
      · have : b ≠ 0 := fun h => by have := hs h; cases this
        simp at hN'; omega
    · rcases hz with h | h
      · exact rvalue_minus_t N sz p q t w1 hf h hm
      · exact rvalue_minus_f N sz p q t w1 hf h hm
  obtain ⟨b, s, hbZ, hNb⟩ := N_split (N := N) (Z := 2 ^ (sz.toNat - 1)) (by
    rcases hz with h | h
    · rw [hsz h]; have := h32 h; omega
    · rw [hsz2 h]; omega)
  have hs : b = 0 → s = false := fun h => by
    cases s
    · rfl
    · exfalso; apply hm; rw [hNb, h]; simp
  have hKX : b / 2 ^ (p - 1) ≤ t + q + 2 := by
    have hf2 := hf
    rcases hf2 with ⟨rfl, rfl, rfl, rfl⟩ | ⟨rfl, rfl, rfl, rfl⟩
    · have : b < 2147483648 := hbZ
      show b / 8388608 ≤ 255
      omega
    · have : b < 9223372036854775808 := hbZ
      show b / 4503599627370496 ≤ 2047
      omega
  by_cases hone : b / 2 ^ (p - 1) = t + q + 2
  · refine ⟨noQ, 1, ⟨fun h => absurd h (by decide), fun {p' q' t' b' s'} hf' hb hs' hN' => ?_⟩, fun w1 => ?_⟩
    · exfalso
      obtain ⟨rfl, rfl, rfl⟩ := hf.same hf'
      obtain ⟨rfl, rfl⟩ := N_same hbZ (fit_sz hf' hb) (hNb.symm.trans hN')
      refine hb ?_
      rw [← hone]
      exact Nat.div_mul_le_self _ _
    · rcases hz with h | h
      · exact rvalue_ones_t N sz p q t b s w1 hf h (h32 h) hbZ hs hone hNb
      · exact rvalue_ones_f N sz p q t b s w1 hf h hbZ hs hone hNb
  have hb : ¬ (t + q + 2) * 2 ^ (p - 1) ≤ b := fun h => hone (Nat.le_antisymm hKX ((Nat.le_div_iff_mul_le (Nat.pow_pos (by decide))).2 h))
  have hcall : ∀ w1, Calls Try.prog 47 #[.int .u64 (N : Int), .int .i64 sz] w1 (RetVal s p q b w1) := fun w1 => by
    rcases hz with h | h
    · exact rvalue_good_t N sz p q t b s w1 hf h (h32 h) hb hs hNb
    · exact rvalue_good_f N sz p q t b s w1 hf h hb hs hNb
  by_cases hov : Top ≤ LN p q b ∨ Top ≤ LD p q b
  · refine ⟨noQ, 2, ⟨fun h => absurd h (by decide), fun _ _ _ _ => .inr rfl⟩, fun w1 => (hcall w1).mono fun E w' h => ?_⟩
    unfold RetVal at h
    rwa [if_pos hov] at h
  · refine ⟨valQ s p q b, 0, ⟨fun _ => ⟨p, q, t, b, s, hf, hb, hs, hNb, rfl, by omega, by omega⟩, fun _ _ _ _ => .inl rfl⟩, fun w1 => (hcall w1).mono fun E w' h => ?_⟩
    unfold RetVal at h
    rwa [if_neg hov] at h
theorem sgn_is {sz : Int} {s : Bool} {b : Nat} (hs : b = 0 → s = false) : sgn s sz b = b + s.toNat * 2 ^ (sz.toNat - 1) := by
  unfold sgn
  by_cases h : b = 0
  · rw [if_neg (by simp [h]), hs h]; simp
  · cases s
    · rw [if_neg (by simp)]; simp
    · rw [if_pos ⟨rfl, h⟩]; simp
theorem sgn_low {sz : Int} {s : Bool} {b : Nat} : sgn s sz b = b + (s && decide (b ≠ 0)).toNat * 2 ^ (sz.toNat - 1) ∧ (b = 0 → (s && decide (b ≠ 0)) = false) := by
  unfold sgn
  by_cases h : b = 0
  · rw [if_neg (by simp [h])]; simp [h]
  · cases s
    · rw [if_neg (by simp)]; simp
    · rw [if_pos ⟨rfl, h⟩]; simp [h]
theorem sgn_lt {sz : Int} {p q t b : Nat} {s : Bool} (hf : Fm sz p q t) (hb : b < 2 ^ (sz.toNat - 1)) : sgn s sz b < 18446744073709551616 := by
  have h1 : 2 ^ (sz.toNat - 1) ≤ 9223372036854775808 := Nat.pow_le_pow_right (n := 2) (j := 63) (by decide) (by have := hf.ok; omega)
  unfold sgn
  split <;> omega
theorem same_exact {s : Bool} {p q n d b : Nat} {x : Bool} (hq : QR ⟨s, n, d⟩) (hC : Code p q n d b x) : likeB (valQ (s && decide (b ≠ 0)) p q b).s s (limbs (valQ (s && decide (b ≠ 0)) p q b).n) (limbs (valQ (s && decide (b ≠ 0)) p q b).d) (limbs n) (limbs d) = x := by
  rw [hC.exact_iff]
  unfold likeB valQ
  show (decide ((s && decide (b ≠ 0)) = s) && decide (limbs (LN p q b) = limbs n) && decide (limbs (LD p q b) = limbs d)) = _
  have hv := L_val p q b
  have hd0 : 0 < d := Nat.pos_of_ne_zero hq.den
  have hP : 0 < 2 ^ q := Nat.pow_pos (by decide)
  by_cases he : V p b * d = n * 2 ^ q
  · rw [decide_eq_true he]
    have h1 : LN p q b * d = n * LD p q b := by
      refine Nat.eq_of_mul_eq_mul_right hP ?_
      rw [Nat.mul_right_comm (LN p q b), ← hv, Nat.mul_right_comm (V p b), he, Nat.mul_right_comm n]
    obtain ⟨e1, e2⟩ : LN p q b = n ∧ LD p q b = d := co_uniq (L_co p q b) hq.co (Nat.ne_of_gt (LD_pos p q b)) h1
    have h2 : (s && decide (b ≠ 0)) = s := by
      by_cases h0 : b = 0
      · have hn0 : n = 0 := by rw [← e1]; exact LN_zero.2 h0
        have : s = false := hq.zero hn0
        rw [this]; rfl
      · simp [h0]
    rw [h2, e1]
    show (decide (s = s) && decide (limbs n = limbs n) && decide (limbs (LD p q b) = limbs d)) = true
    rw [show LD p q b = d from e2]
    simp
  · rw [decide_eq_false he]
    by_cases h1 : limbs (LN p q b) = limbs n
    · by_cases h2 : limbs (LD p q b) = limbs d
      · exfalso
        apply he
        rw [← limbs_inj.1 h1, ← limbs_inj.1 h2]
        exact hv
      · rw [decide_eq_false h2, Bool.and_false]
    · rw [decide_eq_false h1, Bool.and_false, Bool.false_and]
theorem law_back3 (N : Nat) (s : Bool) (A B : Option Addr) (c d : Nat) (x0 y0 : List Nat) (sz : Int) (w : World) (hN : N < 18446744073709551616) (h1 : RdL w A x0) (h2 : RdL w B y0) (k1 : x0.length ≤ c) (k2 : y0.length ≤ d) (m1 : Lim x0) (m2 : Lim y0) :
    Calls Try.prog 10 #[.int .u64 (N : Int), .agg #[.bool s, .slice A x0.length c, .slice B y0.length d], .int .i64 sz] w (RetT w) := by
  have l1 := Nat.le_trans (few_short x0) k1
  have l2 := Nat.le_trans (few_short y0) k2
  obtain ⟨q1, f1, a1, hv1⟩ := val_ans N sz hN
  obtain ⟨u, x, f2, ba, hb2⟩ := bits_ans s A B c d (few x0) (few y0) sz (few_lim m1) (few_lim m2) (few_le _) (few_le _) l1 l2
  by_cases hf1 : f1 = 0
  · subst hf1
    obtain ⟨p, q, t, b, s1, hf, hb, hs, hNb, rfl, ht1, ht2⟩ := a1.good rfl
    have hq1 : QR (valQ s1 p q b) := valQ_right hs
    obtain ⟨cc, ex, hC⟩ := code_any p q (LN p q b) (LD p q b) (LD_pos p q b)
    obtain ⟨rfl, rfl⟩ := Code.self (L_val p q b) (LD_pos p q b) hC
    have hb1 : ∀ w1 A1 B1 c1 d1, RdL w1 A1 (limbs (valQ s1 p q cc).n) → RdL w1 B1 (limbs (valQ s1 p q cc).d) → (limbs (valQ s1 p q cc).n).length ≤ c1 → (limbs (valQ s1 p q cc).d).length ≤ d1 → Calls Try.prog 12 #[.agg #[.bool (valQ s1 p q cc).s, .slice A1 (limbs (valQ s1 p q cc).n).length c1, .slice B1 (limbs (valQ s1 p q cc).d).length d1], .int .i64 sz] w1 (RetBits N true 0 w1) := fun w1 A1 B1 c1 d1 r1 r2 j1 j2 => by
      rw [hNb, ← sgn_is (sz := sz) hs]
      exact rbits_fit s1 A1 B1 c1 d1 (LN p q cc) (LD p q cc) sz p q t w1 r1 r2 j1 j2 ht1 ht2 hq1 hf hC hb rfl
    by_cases hf2 : f2 = 0
    · subst hf2
      obtain ⟨p', q', t', n, d0, cb, hf', e1, e2, hn, hd, hq, hcb, hob, rfl⟩ := ba.good rfl
      obtain ⟨hs1, hs2⟩ := sgn_low (sz := sz) (s := s) (b := cb)
      have hlt := fit_sz hf' hob
      obtain ⟨q2, f3, a2, hv2⟩ := val_ans (sgn s sz cb) sz (sgn_lt hf' hlt)
      rcases a2.sure hf' hob hs2 hs1 with rfl | rfl
      · obtain ⟨p2, q3, t2, b2, s2, hf2, hb2', hs3, hNb2, rfl, ht3, ht4⟩ := a2.good rfl
        obtain ⟨rfl, rfl, rfl⟩ := hf'.same hf2
        obtain ⟨rfl, rfl⟩ := N_same hlt (fit_sz hf2 hb2') (hs1.symm.trans hNb2)
        exact back3_ys N s A B c d x0 y0 _ _ sz w h1 h2 k1 k2 m1 m2 rfl rfl hv1 ht1 ht2 hq1 hb1 hb2 hv2 (by rw [e1, e2]; exact same_exact hq hcb) ht3 ht4
      · exact back3_yo N s A B c d x0 y0 _ _ sz w h1 h2 k1 k2 m1 m2 rfl rfl hv1 ht1 ht2 hq1 hb1 hb2 hv2
    · obtain ⟨rfl, rfl⟩ := ba.bad hf2
      exact back3_ye N s A B c d x0 y0 _ _ sz w h1 h2 k1 k2 m1 m2 rfl rfl hv1 ht1 ht2 hq1 hb1 hb2 hf2
  · by_cases hf2 : f2 = 0
    · subst hf2
      obtain ⟨p', q', t', n, d0, cb, hf', e1, e2, hn, hd, hq, hcb, hob, rfl⟩ := ba.good rfl
      obtain ⟨hs1, hs2⟩ := sgn_low (sz := sz) (s := s) (b := cb)
      have hlt := fit_sz hf' hob
      obtain ⟨q2, f3, a2, hv2⟩ := val_ans (sgn s sz cb) sz (sgn_lt hf' hlt)
      rcases a2.sure hf' hob hs2 hs1 with rfl | rfl
      · obtain ⟨p2, q3, t2, b2, s2, hf2, hb2', hs3, hNb2, rfl, ht3, ht4⟩ := a2.good rfl
        obtain ⟨rfl, rfl, rfl⟩ := hf'.same hf2
        obtain ⟨rfl, rfl⟩ := N_same hlt (fit_sz hf2 hb2') (hs1.symm.trans hNb2)
        exact back3_ns N s A B c d x0 y0 _ _ sz w h1 h2 k1 k2 m1 m2 rfl rfl hv1 hf1 hb2 hv2 (by rw [e1, e2]; exact same_exact hq hcb) ht3 ht4
      · exact back3_no N s A B c d x0 y0 _ _ sz w h1 h2 k1 k2 m1 m2 rfl rfl hv1 hf1 hb2 hv2
    · obtain ⟨rfl, rfl⟩ := ba.bad hf2
      exact back3_ne N s A B c d x0 y0 _ _ sz w h1 h2 k1 k2 m1 m2 rfl rfl hv1 hf1 hb2 hf2
theorem law_back3i (s : Bool) (A B : Option Addr) (c d : Nat) (x0 y0 : List Nat) (i sz : Int) (w : World) (hi : 0 ≤ i ∧ i < 18446744073709551616) (h1 : RdL w A x0) (h2 : RdL w B y0) (k1 : x0.length ≤ c) (k2 : y0.length ≤ d) (m1 : Lim x0) (m2 : Lim y0) :
    Calls Try.prog 10 #[.int .u64 i, .agg #[.bool s, .slice A x0.length c, .slice B y0.length d], .int .i64 sz] w (RetT w) := by
  obtain ⟨N, rfl⟩ : ∃ N : Nat, i = (N : Int) := ⟨i.toNat, by omega⟩
  exact law_back3 N s A B c d x0 y0 sz w (by omega) h1 h2 k1 k2 m1 m2
end Go.Proofs.Ytmbbdjpnecjleaa
