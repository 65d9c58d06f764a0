/-
  The law RoundNearest, walked.
  The law RoundNearest, whole.
-/
import Derived.Test.YtmbbdjpnecjleaaRoE
namespace Go.Proofs.Ytmbbdjpnecjleaa
section
open Go.RowKit

set_option maxRecDepth 100000 in
set_option maxHeartbeats 1000000 in
theorem near_size (s : Bool) (A B : Option Addr) (c d : Nat) (x0 y0 : List Nat) (xs ys : List Nat) (sz : Int) (w : World) (h1 : RdL w A x0) (h2 : RdL w B y0) (k1 : x0.length ≤ c) (k2 : y0.length ≤ d) (m1 : Lim x0) (m2 : Lim y0) (h32 : sz ≠ 32) (h64 : sz ≠ 64) (e1 : few x0 = xs) (e2 : few y0 = ys) :
    Calls Try.prog 3 #[.agg #[.bool s, .slice A x0.length c, .slice B y0.length d], .int .i64 sz] w (RetT w) := by
  have z1 : (sz != 32) = true := by simp [h32]
  have z2 : (sz != 64) = true := by simp [h64]
  have HZ := Lib.hid (And.intro h32 h64); clear h32 h64
  have R1 := Lib.hid (show RdL w A xs by rw [← e1]; exact h1.take 18); clear h1
  have R2 := Lib.hid (show RdL w B ys by rw [← e2]; exact h2.take 18); clear h2
  have L18 := Lib.hid (show xs.length ≤ 18 ∧ ys.length ≤ 18 by rw [← e1, ← e2]; exact ⟨few_le _, few_le _⟩)
  have KC := Lib.hid (show xs.length ≤ c ∧ ys.length ≤ d by rw [← e1, ← e2]; exact ⟨Nat.le_trans (few_short _) k1, Nat.le_trans (few_short _) k2⟩)
  have M := Lib.hid (show Lim xs ∧ Lim ys by rw [← e1, ← e2]; exact ⟨few_lim m1, few_lim m2⟩); clear m1 m2
  have F := Lib.hid (And.intro k1 (And.intro k2 (And.intro e1 e2))); clear k1 k2 e1 e2
  obtain ⟨wa, hwa⟩ : ∃ wa, wa = w.alloc (.cells #[.bool s, .slice A x0.length c, .slice B y0.length d] 25) := ⟨_, rfl⟩
  have hbl : Below w.heap.size w wa := by rw [hwa]; exact bel_alloc (bel_refl _) _
  have CX : Blk wa (w.heap.size) 25 #[.bool s, .slice A x0.length c, .slice B y0.length d] := by
    have hz := Blk.new (w) 25 #[.bool s, .slice A x0.length c, .slice B y0.length d]
    rw [hwa]
    exact hz
  replace R1 := Lib.hid (R1.out.below hbl)
  replace R2 := Lib.hid (R2.out.below hbl)
  have HW := Lib.hid hbl; clear hbl
  replace CX := Lib.hid CX
  go_enter Try.func3, Try.ntmps3
  go_wp2_with fail
  rw [← hwa]
  clear hwa
  have CX0 : wa.cell? ⟨w.heap.size, 0, none⟩ = some (.bool s) := CX.out.cell 0
  have CX1 : wa.cell? ⟨w.heap.size, 1, none⟩ = some (.slice A x0.length c) := CX.out.cell 1
  have CX2 : wa.cell? ⟨w.heap.size, 2, none⟩ = some (.slice B y0.length d) := CX.out.cell 2
  refine (few3_is s A B c d x0 y0 xs ys _ F.out.1 F.out.2.1 F.out.2.2.1 F.out.2.2.2).mono ?_
  rintro e w1 ⟨rfl, hbl⟩
  replace R1 := Lib.hid (R1.out.below hbl)
  replace R2 := Lib.hid (R2.out.below hbl)
  replace CX := Lib.hid (CX.out.below hbl CX.out.lt)
  replace HW := Lib.hid (bel_trans HW.out hbl); clear hbl
  clear CX0 CX1 CX2
  have CX0 : w1.cell? ⟨w.heap.size, 0, none⟩ = some (.bool s) := CX.out.cell 0
  have CX1 : w1.cell? ⟨w.heap.size, 1, none⟩ = some (.slice A x0.length c) := CX.out.cell 1
  have CX2 : w1.cell? ⟨w.heap.size, 2, none⟩ = some (.slice B y0.length d) := CX.out.cell 2
  have pd0 := CX.out.cell 0
  have pf0 := CX.out.frozen 0
  have pd1 := CX.out.cell 1
  have pf1 := CX.out.frozen 1
  have pd2 := CX.out.cell 2
  have pf2 := CX.out.frozen 2
  go_upto_region 2 with fail
  clear pd0 pf0 pd1 pf1 pd2 pf2
  obtain ⟨wf, hwf⟩ : ∃ wf, wf = (((w1.setCell ⟨w.heap.size, 0, none⟩ (.bool s)).setCell ⟨w.heap.size, 1, none⟩ (.slice A xs.length c)).setCell ⟨w.heap.size, 2, none⟩ (.slice B ys.length d)) := ⟨_, rfl⟩
  rw [← hwf]
  replace R1 := Lib.hid (show RdL wf _ _ by rw [hwf]; exact RdL.set3 (CX.out) (R1.out) _ _ _)
  replace R2 := Lib.hid (show RdL wf _ _ by rw [hwf]; exact RdL.set3 (CX.out) (R2.out) _ _ _)
  have CX_ := Lib.hid (show Blk wf (w.heap.size) 25 #[.bool s, .slice A xs.length c, .slice B ys.length d] by rw [hwf]; exact (((CX.out).put 0 (.bool s)).put 1 (.slice A xs.length c)).put 2 (.slice B ys.length d))
  replace CX := CX_; clear CX_
  replace HW := Lib.hid (show Below w.heap.size w wf by rw [hwf]; exact bel_set (p := ⟨w.heap.size, 2, none⟩) (bel_set (p := ⟨w.heap.size, 1, none⟩) (bel_set (p := ⟨w.heap.size, 0, none⟩) (HW.out) (by show w.heap.size ≤ w.heap.size; omega) _) (by show w.heap.size ≤ w.heap.size; omega) _) (by show w.heap.size ≤ w.heap.size; omega) _)
  clear hwf
  clear CX0 CX1 CX2
  have CX0 : wf.cell? ⟨w.heap.size, 0, none⟩ = some (.bool s) := CX.out.cell 0
  have CX1 : wf.cell? ⟨w.heap.size, 1, none⟩ = some (.slice A xs.length c) := CX.out.cell 1
  have CX2 : wf.cell? ⟨w.heap.size, 2, none⟩ = some (.slice B ys.length d) := CX.out.cell 2
  go_wp2_with fail
  refine (rbits_size s A B c d xs ys sz _ R1.out R2.out HZ.out.1 HZ.out.2).mono ?_
  rintro e w2 ⟨rfl, hbl⟩
  replace R1 := Lib.hid (R1.out.below hbl)
  replace R2 := Lib.hid (R2.out.below hbl)
  replace CX := Lib.hid (CX.out.below hbl CX.out.lt)
  replace HW := Lib.hid (bel_trans HW.out hbl); clear hbl
  clear CX0 CX1 CX2
  have CX0 : w2.cell? ⟨w.heap.size, 0, none⟩ = some (.bool s) := CX.out.cell 0
  have CX1 : w2.cell? ⟨w.heap.size, 1, none⟩ = some (.slice A xs.length c) := CX.out.cell 1
  have CX2 : w2.cell? ⟨w.heap.size, 2, none⟩ = some (.slice B ys.length d) := CX.out.cell 2
  go_wp2_with fail
  refine (alive3 _).mono ?_
  rintro e w3 ⟨rfl, hbl⟩
  replace R1 := Lib.hid (R1.out.below hbl)
  replace R2 := Lib.hid (R2.out.below hbl)
  replace CX := Lib.hid (CX.out.below hbl CX.out.lt)
  replace HW := Lib.hid (bel_trans HW.out hbl); clear hbl
  clear CX0 CX1 CX2
  have CX0 : w3.cell? ⟨w.heap.size, 0, none⟩ = some (.bool s) := CX.out.cell 0
  have CX1 : w3.cell? ⟨w.heap.size, 1, none⟩ = some (.slice A xs.length c) := CX.out.cell 1
  have CX2 : w3.cell? ⟨w.heap.size, 2, none⟩ = some (.slice B ys.length d) := CX.out.cell 2
  go_wp2
  go_ret
  exact ⟨rfl, HW.out⟩

set_option maxRecDepth 100000 in
set_option maxHeartbeats 1000000 in
theorem near_wrong_f (s : Bool) (A B : Option Addr) (c d : Nat) (x0 y0 : List Nat) (xs ys : List Nat) (sz : Int) (p q t : Nat) (w : World) (h1 : RdL w A x0) (h2 : RdL w B y0) (k1 : x0.length ≤ c) (k2 : y0.length ≤ d) (m1 : Lim x0) (m2 : Lim y0) (hf : Fm sz p q t) (z1 : (sz != 32) = false) (hr : rightB s xs ys = false) (e1 : few x0 = xs) (e2 : few y0 = ys) :
    Calls Try.prog 3 #[.agg #[.bool s, .slice A x0.length c, .slice B y0.length d], .int .i64 sz] w (RetT w) := by
  have HF := Lib.hid hf; clear hf
  have HR := Lib.hid hr; clear hr
  have R1 := Lib.hid (show RdL w A xs by rw [← e1]; exact h1.take 18); clear h1
  have R2 := Lib.hid (show RdL w B ys by rw [← e2]; exact h2.take 18); clear h2
  have L18 := Lib.hid (show xs.length ≤ 18 ∧ ys.length ≤ 18 by rw [← e1, ← e2]; exact ⟨few_le _, few_le _⟩)
  have KC := Lib.hid (show xs.length ≤ c ∧ ys.length ≤ d by rw [← e1, ← e2]; exact ⟨Nat.le_trans (few_short _) k1, Nat.le_trans (few_short _) k2⟩)
  have M := Lib.hid (show Lim xs ∧ Lim ys by rw [← e1, ← e2]; exact ⟨few_lim m1, few_lim m2⟩); clear m1 m2
  have F := Lib.hid (And.intro k1 (And.intro k2 (And.intro e1 e2))); clear k1 k2 e1 e2
  obtain ⟨wa, hwa⟩ : ∃ wa, wa = w.alloc (.cells #[.bool s, .slice A x0.length c, .slice B y0.length d] 25) := ⟨_, rfl⟩
  have hbl : Below w.heap.size w wa := by rw [hwa]; exact bel_alloc (bel_refl _) _
  have CX : Blk wa (w.heap.size) 25 #[.bool s, .slice A x0.length c, .slice B y0.length d] := by
    have hz := Blk.new (w) 25 #[.bool s, .slice A x0.length c, .slice B y0.length d]
    rw [hwa]
    exact hz
  replace R1 := Lib.hid (R1.out.below hbl)
  replace R2 := Lib.hid (R2.out.below hbl)
  have HW := Lib.hid hbl; clear hbl
  replace CX := Lib.hid CX
  go_enter Try.func3, Try.ntmps3
  go_wp2_with fail
  rw [← hwa]
  clear hwa
  have CX0 : wa.cell? ⟨w.heap.size, 0, none⟩ = some (.bool s) := CX.out.cell 0
  have CX1 : wa.cell? ⟨w.heap.size, 1, none⟩ = some (.slice A x0.length c) := CX.out.cell 1
  have CX2 : wa.cell? ⟨w.heap.size, 2, none⟩ = some (.slice B y0.length d) := CX.out.cell 2
  refine (few3_is s A B c d x0 y0 xs ys _ F.out.1 F.out.2.1 F.out.2.2.1 F.out.2.2.2).mono ?_
  rintro e w1 ⟨rfl, hbl⟩
  replace R1 := Lib.hid (R1.out.below hbl)
  replace R2 := Lib.hid (R2.out.below hbl)
  replace CX := Lib.hid (CX.out.below hbl CX.out.lt)
  replace HW := Lib.hid (bel_trans HW.out hbl); clear hbl
  clear CX0 CX1 CX2
  have CX0 : w1.cell? ⟨w.heap.size, 0, none⟩ = some (.bool s) := CX.out.cell 0
  have CX1 : w1.cell? ⟨w.heap.size, 1, none⟩ = some (.slice A x0.length c) := CX.out.cell 1
  have CX2 : w1.cell? ⟨w.heap.size, 2, none⟩ = some (.slice B y0.length d) := CX.out.cell 2
  have pd0 := CX.out.cell 0
  have pf0 := CX.out.frozen 0
  have pd1 := CX.out.cell 1
  have pf1 := CX.out.frozen 1
  have pd2 := CX.out.cell 2
  have pf2 := CX.out.frozen 2
  go_upto_region 2 with fail
  clear pd0 pf0 pd1 pf1 pd2 pf2
  obtain ⟨wf, hwf⟩ : ∃ wf, wf = (((w1.setCell ⟨w.heap.size, 0, none⟩ (.bool s)).setCell ⟨w.heap.size, 1, none⟩ (.slice A xs.length c)).setCell ⟨w.heap.size, 2, none⟩ (.slice B ys.length d)) := ⟨_, rfl⟩
  rw [← hwf]
  replace R1 := Lib.hid (show RdL wf _ _ by rw [hwf]; exact RdL.set3 (CX.out) (R1.out) _ _ _)
  replace R2 := Lib.hid (show RdL wf _ _ by rw [hwf]; exact RdL.set3 (CX.out) (R2.out) _ _ _)
  have CX_ := Lib.hid (show Blk wf (w.heap.size) 25 #[.bool s, .slice A xs.length c, .slice B ys.length d] by rw [hwf]; exact (((CX.out).put 0 (.bool s)).put 1 (.slice A xs.length c)).put 2 (.slice B ys.length d))
  replace CX := CX_; clear CX_
  replace HW := Lib.hid (show Below w.heap.size w wf by rw [hwf]; exact bel_set (p := ⟨w.heap.size, 2, none⟩) (bel_set (p := ⟨w.heap.size, 1, none⟩) (bel_set (p := ⟨w.heap.size, 0, none⟩) (HW.out) (by show w.heap.size ≤ w.heap.size; omega) _) (by show w.heap.size ≤ w.heap.size; omega) _) (by show w.heap.size ≤ w.heap.size; omega) _)
  clear hwf
  clear CX0 CX1 CX2
  have CX0 : wf.cell? ⟨w.heap.size, 0, none⟩ = some (.bool s) := CX.out.cell 0
  have CX1 : wf.cell? ⟨w.heap.size, 1, none⟩ = some (.slice A xs.length c) := CX.out.cell 1
  have CX2 : wf.cell? ⟨w.heap.size, 2, none⟩ = some (.slice B ys.length d) := CX.out.cell 2
  go_wp2_with fail
  refine (rbits_wrong s A B c d xs ys sz p q t _ R1.out R2.out M.out.1 M.out.2 L18.out.1 L18.out.2 KC.out.1 KC.out.2 HR.out HF.out).mono ?_
  rintro e w2 ⟨rfl, hbl⟩
  replace R1 := Lib.hid (R1.out.below hbl)
  replace R2 := Lib.hid (R2.out.below hbl)
  replace CX := Lib.hid (CX.out.below hbl CX.out.lt)
  replace HW := Lib.hid (bel_trans HW.out hbl); clear hbl
  clear CX0 CX1 CX2
  have CX0 : w2.cell? ⟨w.heap.size, 0, none⟩ = some (.bool s) := CX.out.cell 0
  have CX1 : w2.cell? ⟨w.heap.size, 1, none⟩ = some (.slice A xs.length c) := CX.out.cell 1
  have CX2 : w2.cell? ⟨w.heap.size, 2, none⟩ = some (.slice B ys.length d) := CX.out.cell 2
  go_wp2_with fail
  refine (refRatRight_is s A B c d xs ys _ R1.out R2.out M.out.1 M.out.2 L18.out.1 L18.out.2 HR.out).mono ?_
  rintro e w3 ⟨rfl, hbl⟩
  replace R1 := Lib.hid (R1.out.below hbl)
  replace R2 := Lib.hid (R2.out.below hbl)
  replace CX := Lib.hid (CX.out.below hbl CX.out.lt)
  replace HW := Lib.hid (bel_trans HW.out hbl); clear hbl
  clear CX0 CX1 CX2
  have CX0 : w3.cell? ⟨w.heap.size, 0, none⟩ = some (.bool s) := CX.out.cell 0
  have CX1 : w3.cell? ⟨w.heap.size, 1, none⟩ = some (.slice A xs.length c) := CX.out.cell 1
  have CX2 : w3.cell? ⟨w.heap.size, 2, none⟩ = some (.slice B ys.length d) := CX.out.cell 2
  go_wp2_with fail
  refine (alive3 _).mono ?_
  rintro e w4 ⟨rfl, hbl⟩
  replace R1 := Lib.hid (R1.out.below hbl)
  replace R2 := Lib.hid (R2.out.below hbl)
  replace CX := Lib.hid (CX.out.below hbl CX.out.lt)
  replace HW := Lib.hid (bel_trans HW.out hbl); clear hbl
  clear CX0 CX1 CX2
  have CX0 : w4.cell? ⟨w.heap.size, 0, none⟩ = some (.bool s) := CX.out.cell 0
  have CX1 : w4.cell? ⟨w.heap.size, 1, none⟩ = some (.slice A xs.length c) := CX.out.cell 1
  have CX2 : w4.cell? ⟨w.heap.size, 2, none⟩ = some (.slice B ys.length d) := CX.out.cell 2
  go_wp2
  go_ret
  exact ⟨rfl, HW.out⟩

set_option maxRecDepth 100000 in
set_option maxHeartbeats 1000000 in
theorem near_over_f (s : Bool) (A B : Option Addr) (c d : Nat) (x0 y0 : List Nat) (n d0 : Nat) (sz : Int) (p q t cc : Nat) (ex : Bool) (w : World) (h1 : RdL w A x0) (h2 : RdL w B y0) (k1 : x0.length ≤ c) (k2 : y0.length ≤ d) (m1 : Lim x0) (m2 : Lim y0) (hf : Fm sz p q t) (z1 : (sz != 32) = false) (hn : n < Top) (hd : d0 < Top) (hq : QR ⟨s, n, d0⟩) (hC : Code p q n d0 cc ex) (ho : (t + q + 2) * 2 ^ (p - 1) ≤ cc) (e1 : few x0 = (limbs n)) (e2 : few y0 = (limbs d0)) :
    Calls Try.prog 3 #[.agg #[.bool s, .slice A x0.length c, .slice B y0.length d], .int .i64 sz] w (RetT w) := by
  obtain ⟨op1, op2, oq0, oq, ot, os1, os2⟩ := hf.ok
  have HF := Lib.hid hf; clear hf
  have HQ := Lib.hid (And.intro hn (And.intro hd hq)); clear hn hd hq
  have HR := Lib.hid ((rightB_q (s := s) HQ.out.1 HQ.out.2.1).2 HQ.out.2.2)
  have HC := Lib.hid hC; clear hC
  obtain ⟨HI, hHI⟩ : ∃ HI, HI = (t + q + 2) * 2 ^ (p - 1) := ⟨_, rfl⟩
  obtain ⟨K, hK⟩ : ∃ K, K = t + q + 2 := ⟨_, rfl⟩
  obtain ⟨H, hH⟩ : ∃ H, H = 2 ^ (p - 1) := ⟨_, rfl⟩
  have hH1 : H ≤ 4503599627370496 := by rw [hH]; exact Nat.pow_le_pow_right (n := 2) (j := 52) (by decide) (by omega)
  have hHI2 : HI ≤ 2047 * 4503599627370496 := by rw [hHI, ← hH]; exact Nat.mul_le_mul (by omega) hH1
  have s0 : IntKind.i64.wrap ((p : Int) - 1) = ((p - 1 : Nat) : Int) := by rw [IntKind.wrap_i64]; omega
  have hmin : min (p - 1) 64 = p - 1 := by omega
  have s3 : (2 : Int) ^ (p - 1) = (H : Int) := by rw [hH, Int.natCast_pow]; rfl
  have s1 : (K : Int) * (H : Int) = (HI : Int) := by rw [hHI, ← hH, ← hK, Int.natCast_mul]
  have s2 : IntKind.u64.wrap (HI : Int) = (HI : Int) := by rw [IntKind.wrap_u64]; omega
  have HO := Lib.hid ho; clear ho
  have HHI := Lib.hid (And.intro hHI hK); clear hHI hK hH hH1 hHI2
  have R1 := Lib.hid (show RdL w A (limbs n) by rw [← e1]; exact h1.take 18); clear h1
  have R2 := Lib.hid (show RdL w B (limbs d0) by rw [← e2]; exact h2.take 18); clear h2
  have L18 := Lib.hid (show (limbs n).length ≤ 18 ∧ (limbs d0).length ≤ 18 by rw [← e1, ← e2]; exact ⟨few_le _, few_le _⟩)
  have KC := Lib.hid (show (limbs n).length ≤ c ∧ (limbs d0).length ≤ d by rw [← e1, ← e2]; exact ⟨Nat.le_trans (few_short _) k1, Nat.le_trans (few_short _) k2⟩)
  have M := Lib.hid (show Lim (limbs n) ∧ Lim (limbs d0) by rw [← e1, ← e2]; exact ⟨few_lim m1, few_lim m2⟩); clear m1 m2
  have F := Lib.hid (And.intro k1 (And.intro k2 (And.intro e1 e2))); clear k1 k2 e1 e2
  obtain ⟨wa, hwa⟩ : ∃ wa, wa = w.alloc (.cells #[.bool s, .slice A x0.length c, .slice B y0.length d] 25) := ⟨_, rfl⟩
  have hbl : Below w.heap.size w wa := by rw [hwa]; exact bel_alloc (bel_refl _) _
  have CX : Blk wa (w.heap.size) 25 #[.bool s, .slice A x0.length c, .slice B y0.length d] := by
    have hz := Blk.new (w) 25 #[.bool s, .slice A x0.length c, .slice B y0.length d]
    rw [hwa]
    exact hz
  replace R1 := Lib.hid (R1.out.below hbl)
  replace R2 := Lib.hid (R2.out.below hbl)
  have HW := Lib.hid hbl; clear hbl
  replace CX := Lib.hid CX
  go_enter Try.func3, Try.ntmps3
  go_wp2_with fail
  rw [← hwa]
  clear hwa
  have CX0 : wa.cell? ⟨w.heap.size, 0, none⟩ = some (.bool s) := CX.out.cell 0
  have CX1 : wa.cell? ⟨w.heap.size, 1, none⟩ = some (.slice A x0.length c) := CX.out.cell 1
  have CX2 : wa.cell? ⟨w.heap.size, 2, none⟩ = some (.slice B y0.length d) := CX.out.cell 2
  refine (few3_is s A B c d x0 y0 (limbs n) (limbs d0) _ F.out.1 F.out.2.1 F.out.2.2.1 F.out.2.2.2).mono ?_
  rintro e w1 ⟨rfl, hbl⟩
  replace R1 := Lib.hid (R1.out.below hbl)
  replace R2 := Lib.hid (R2.out.below hbl)
  replace CX := Lib.hid (CX.out.below hbl CX.out.lt)
  replace HW := Lib.hid (bel_trans HW.out hbl); clear hbl
  clear CX0 CX1 CX2
  have CX0 : w1.cell? ⟨w.heap.size, 0, none⟩ = some (.bool s) := CX.out.cell 0
  have CX1 : w1.cell? ⟨w.heap.size, 1, none⟩ = some (.slice A x0.length c) := CX.out.cell 1
  have CX2 : w1.cell? ⟨w.heap.size, 2, none⟩ = some (.slice B y0.length d) := CX.out.cell 2
  have pd0 := CX.out.cell 0
  have pf0 := CX.out.frozen 0
  have pd1 := CX.out.cell 1
  have pf1 := CX.out.frozen 1
  have pd2 := CX.out.cell 2
  have pf2 := CX.out.frozen 2
  go_upto_region 2 with fail
  clear pd0 pf0 pd1 pf1 pd2 pf2
  obtain ⟨wf, hwf⟩ : ∃ wf, wf = (((w1.setCell ⟨w.heap.size, 0, none⟩ (.bool s)).setCell ⟨w.heap.size, 1, none⟩ (.slice A (limbs n).length c)).setCell ⟨w.heap.size, 2, none⟩ (.slice B (limbs d0).length d)) := ⟨_, rfl⟩
  rw [← hwf]
  replace R1 := Lib.hid (show RdL wf _ _ by rw [hwf]; exact RdL.set3 (CX.out) (R1.out) _ _ _)
  replace R2 := Lib.hid (show RdL wf _ _ by rw [hwf]; exact RdL.set3 (CX.out) (R2.out) _ _ _)
  have CX_ := Lib.hid (show Blk wf (w.heap.size) 25 #[.bool s, .slice A (limbs n).length c, .slice B (limbs d0).length d] by rw [hwf]; exact (((CX.out).put 0 (.bool s)).put 1 (.slice A (limbs n).length c)).put 2 (.slice B (limbs d0).length d))
  replace CX := CX_; clear CX_
  replace HW := Lib.hid (show Below w.heap.size w wf by rw [hwf]; exact bel_set (p := ⟨w.heap.size, 2, none⟩) (bel_set (p := ⟨w.heap.size, 1, none⟩) (bel_set (p := ⟨w.heap.size, 0, none⟩) (HW.out) (by show w.heap.size ≤ w.heap.size; omega) _) (by show w.heap.size ≤ w.heap.size; omega) _) (by show w.heap.size ≤ w.heap.size; omega) _)
  clear hwf
  clear CX0 CX1 CX2
  have CX0 : wf.cell? ⟨w.heap.size, 0, none⟩ = some (.bool s) := CX.out.cell 0
  have CX1 : wf.cell? ⟨w.heap.size, 1, none⟩ = some (.slice A (limbs n).length c) := CX.out.cell 1
  have CX2 : wf.cell? ⟨w.heap.size, 2, none⟩ = some (.slice B (limbs d0).length d) := CX.out.cell 2
  go_wp2_with fail
  refine (rbits_over s A B c d n d0 sz p q t _ R1.out R2.out KC.out.1 KC.out.2 HQ.out.1 HQ.out.2.1 HQ.out.2.2 HF.out HC.out HO.out).mono ?_
  rintro e w2 ⟨rfl, hbl⟩
  replace R1 := Lib.hid (R1.out.below hbl)
  replace R2 := Lib.hid (R2.out.below hbl)
  replace CX := Lib.hid (CX.out.below hbl CX.out.lt)
  replace HW := Lib.hid (bel_trans HW.out hbl); clear hbl
  clear CX0 CX1 CX2
  have CX0 : w2.cell? ⟨w.heap.size, 0, none⟩ = some (.bool s) := CX.out.cell 0
  have CX1 : w2.cell? ⟨w.heap.size, 1, none⟩ = some (.slice A (limbs n).length c) := CX.out.cell 1
  have CX2 : w2.cell? ⟨w.heap.size, 2, none⟩ = some (.slice B (limbs d0).length d) := CX.out.cell 2
  go_wp2_with fail
  refine (refRatRight_is s A B c d (limbs n) (limbs d0) _ R1.out R2.out M.out.1 M.out.2 L18.out.1 L18.out.2 HR.out).mono ?_
  rintro e w3 ⟨rfl, hbl⟩
  replace R1 := Lib.hid (R1.out.below hbl)
  replace R2 := Lib.hid (R2.out.below hbl)
  replace CX := Lib.hid (CX.out.below hbl CX.out.lt)
  replace HW := Lib.hid (bel_trans HW.out hbl); clear hbl
  clear CX0 CX1 CX2
  have CX0 : w3.cell? ⟨w.heap.size, 0, none⟩ = some (.bool s) := CX.out.cell 0
  have CX1 : w3.cell? ⟨w.heap.size, 1, none⟩ = some (.slice A (limbs n).length c) := CX.out.cell 1
  have CX2 : w3.cell? ⟨w.heap.size, 2, none⟩ = some (.slice B (limbs d0).length d) := CX.out.cell 2
  go_upto_region 5 with fail
  have hsz0 : w.heap.size < w3.heap.size := CX.out.lt
  refine wp_region_typed 10 (TOf [VIs (.pointer (some ⟨w.heap.size, 1, none⟩)),
      VIs (.slice A (limbs n).length c),
      VIs (.string (dec n)),
      VIs (.pointer (some ⟨w.heap.size, 2, none⟩)),
      VIs (.slice B (limbs d0).length d),
      VIs (.string (dec d0)),
      VIs (.agg #[.string (dec n), .string (dec d0)]),
      VIs (.int .i64 sz),
      VIs (.agg #[.int .u64 (HI : Int), .bool false]),
      VNewF w3.heap.size 34 #[.int .u64 0, .bool false]]) (by kernel_rfl) (by kernel_rfl) (by kernel_rfl) (LiftAll.at_ (.cons (VIs.lift _) (.cons (VIs.lift _) (.cons (VIs.lift _) (.cons (VIs.lift _) (.cons (VIs.lift _) (.cons (VIs.lift _) (.cons (VIs.lift _) (.cons (VIs.lift _) (.cons (VIs.lift _) (.cons (VNewF.lift _ _ _) .nil))))))))))) (steps_all (steps_cons ?_ (steps_cons ?_ (steps_cons ?_ (steps_cons ?_ (steps_cons ?_ (steps_cons ?_ (steps_cons ?_ (steps_cons ?_ (steps_cons ?_ (steps_cons ?_ steps_zero))))))))))) ?fin
  · intro a0 w9 K9 hF hB hK hC
    have b2 := hF.base (k := 2) (v := .pointer (some ⟨w.heap.size, 0, none⟩)) (by kernel_rfl) rfl
    clear hF hB hK
    go_simp
    exact hC _ _ (bel_refl _) fun _ _ => rfl
  · intro a0 w9 K9 hF hB hK hC
    obtain ⟨v42, e42, z42⟩ := dep hK 0 (g := .data) (j := 0) (k := 42) rfl rfl rfl
    have z42 : v42 = .pointer (some ⟨w.heap.size, 1, none⟩) := z42
    subst z42
    have x9 : w9.cell? ⟨w.heap.size, 1, none⟩ = some (.slice A (limbs n).length c) := (CX.out.below hB CX.out.lt).cell 1
    clear hF hB hK
    go_simp
    exact hC _ _ (bel_refl _) fun _ _ => rfl
  · intro a0 w9 K9 hF hB hK hC
    obtain ⟨v43, e43, z43⟩ := dep hK 0 (g := .data) (j := 1) (k := 43) rfl rfl rfl
    have z43 : v43 = .slice A (limbs n).length c := z43
    subst z43
    have HB9 := Lib.hid hB
    clear hF hB hK
    go_simp
    refine (text_num A c n _ (R1.out.below HB9.out) HQ.out.1).mono ?_
    rintro e w7 ⟨rfl, hbl⟩
    exact hC _ _ hbl fun _ _ => rfl
  · intro a0 w9 K9 hF hB hK hC
    have b2 := hF.base (k := 2) (v := .pointer (some ⟨w.heap.size, 0, none⟩)) (by kernel_rfl) rfl
    clear hF hB hK
    go_simp
    exact hC _ _ (bel_refl _) fun _ _ => rfl
  · intro a0 w9 K9 hF hB hK hC
    obtain ⟨v45, e45, z45⟩ := dep hK 0 (g := .data) (j := 3) (k := 45) rfl rfl rfl
    have z45 : v45 = .pointer (some ⟨w.heap.size, 2, none⟩) := z45
    subst z45
    have x9 : w9.cell? ⟨w.heap.size, 2, none⟩ = some (.slice B (limbs d0).length d) := (CX.out.below hB CX.out.lt).cell 2
    clear hF hB hK
    go_simp
    exact hC _ _ (bel_refl _) fun _ _ => rfl
  · intro a0 w9 K9 hF hB hK hC
    obtain ⟨v46, e46, z46⟩ := dep hK 0 (g := .data) (j := 4) (k := 46) rfl rfl rfl
    have z46 : v46 = .slice B (limbs d0).length d := z46
    subst z46
    have HB9 := Lib.hid hB
    clear hF hB hK
    go_simp
    refine (text_num B d d0 _ (R2.out.below HB9.out) HQ.out.2.1).mono ?_
    rintro e w7 ⟨rfl, hbl⟩
    exact hC _ _ hbl fun _ _ => rfl
  · intro a0 w9 K9 hF hB hK hC
    obtain ⟨v44, e44, z44⟩ := dep hK 0 (g := .data) (j := 2) (k := 44) rfl rfl rfl
    have z44 : v44 = .string (dec n) := z44
    subst z44
    obtain ⟨v47, e47, z47⟩ := dep hK 1 (g := .data) (j := 5) (k := 47) rfl rfl rfl
    have z47 : v47 = .string (dec d0) := z47
    subst z47
    have HB9 := Lib.hid hB
    clear hF hB hK
    go_simp
    exact hC _ _ (bel_refl _) fun _ _ => rfl
  · intro a0 w9 K9 hF hB hK hC
    have b1 := hF.base (k := 1) (v := .int .i64 sz) (by kernel_rfl) rfl
    clear hF hB hK
    go_simp
    exact hC _ _ (bel_refl _) fun _ _ => rfl
  · intro a0 w9 K9 hF hB hK hC
    obtain ⟨v48, e48, z48⟩ := dep hK 0 (g := .data) (j := 6) (k := 48) rfl rfl rfl
    have z48 : v48 = .agg #[.string (dec n), .string (dec d0)] := z48
    subst z48
    obtain ⟨v49, e49, z49⟩ := dep hK 1 (g := .data) (j := 7) (k := 49) rfl rfl rfl
    have z49 : v49 = .int .i64 sz := z49
    subst z49
    have HB9 := Lib.hid hB
    clear hF hB hK
    go_simp
    refine (refNear_over HF.out n d0 _ HQ.out.1 HQ.out.2.1 HQ.out.2.2.den HC.out HHI.out.1 (by rw [HHI.out.1]; exact HO.out)).mono ?_
    rintro e w7 ⟨rfl, hbl⟩
    exact hC _ _ hbl fun _ _ => rfl
  · intro a0 w9 K9 hF hB hK hC
    have HB9 := Lib.hid hB
    clear hF hB hK
    go_simp
    exact hC _ _ (bel_alloc (bel_refl _) _) fun _ _ => ⟨_, rfl, HB9.out.size, Blk.new _ _ _⟩
  case fin =>
    intro a0 w9 hF hB hK
    have b1 := hF.base (k := 1) (v := .int .i64 sz) (by kernel_rfl) rfl
    have b2 := hF.base (k := 2) (v := .pointer (some ⟨w.heap.size, 0, none⟩)) (by kernel_rfl) rfl
    have b4 := hF.base (k := 4) (v := .bool false) (by kernel_rfl) rfl
    have b5 := hF.base (k := 5) (v := .int .u64 0) (by kernel_rfl) rfl
    have b6 := hF.base (k := 6) (v := .bool false) (by kernel_rfl) rfl
    have b7 := hF.base (k := 7) (v := .int .i64 2) (by kernel_rfl) rfl
    have hsz := hF.size
    have hdf := hF.defers
    clear hF
    obtain ⟨v8, e8, z8⟩ := known hK 9 (k := 8) (by decide) rfl
    have z8 : ∃ g, v8 = .pointer (some ⟨g, 0, none⟩) ∧ w3.heap.size ≤ g ∧ Blk w9 g 34 #[.int .u64 0, .bool false] := z8
    obtain ⟨gd, rfl, hgd, Zgd⟩ := z8
    obtain ⟨v50, e50, z50⟩ := known hK 8 (k := 50) (by decide) rfl
    have z50 : v50 = .agg #[.int .u64 (HI : Int), .bool false] := z50
    subst z50
    clear hK
    obtain ⟨⟨l0⟩, df⟩ := a0
    have hs0 : l0.length = 103 := hsz
    clear hsz
    replace hdf : df = _ := hdf
    subst hdf
    obtain ⟨u, rfl⟩ := lits_103 hs0
    clear hs0
    have q1 : u 1 = _ := Option.some.inj b1
    clear b1
    have q2 : u 2 = _ := Option.some.inj b2
    clear b2
    have q4 : u 4 = _ := Option.some.inj b4
    clear b4
    have q5 : u 5 = _ := Option.some.inj b5
    clear b5
    have q6 : u 6 = _ := Option.some.inj b6
    clear b6
    have q7 : u 7 = _ := Option.some.inj b7
    clear b7
    have q8 : u 8 = _ := Option.some.inj e8
    clear e8
    have q50 : u 50 = _ := Option.some.inj e50
    clear e50
    rw [q1, q2, q4, q5, q6, q7, q8, q50]
    clear q1 q2 q4 q5 q6 q7 q8 q50
    have hbl := hB; clear hB
    replace R1 := Lib.hid (R1.out.below hbl)
    replace R2 := Lib.hid (R2.out.below hbl)
    replace CX := Lib.hid (CX.out.below hbl CX.out.lt)
    replace HW := Lib.hid (bel_trans HW.out hbl); clear hbl
    clear CX0 CX1 CX2
    have CX0 : w9.cell? ⟨w.heap.size, 0, none⟩ = some (.bool s) := CX.out.cell 0
    have CX1 : w9.cell? ⟨w.heap.size, 1, none⟩ = some (.slice A (limbs n).length c) := CX.out.cell 1
    have CX2 : w9.cell? ⟨w.heap.size, 2, none⟩ = some (.slice B (limbs d0).length d) := CX.out.cell 2
    simp only [List.drop_succ_cons, List.drop_zero]
    have gl : w.heap.size < gd := by omega
    replace Zgd := Lib.hid Zgd
    have VW := Zgd; clear Zgd
    have xd0 : w9.cell? ⟨gd, 0, none⟩ = some (.int .u64 0) := VW.out.cell 0
    have xf0 : w9.frozen? ⟨gd, 0, none⟩ = false := VW.out.frozen 0
    have xd1 : w9.cell? ⟨gd, 1, none⟩ = some (.bool false) := VW.out.cell 1
    have xf1 : w9.frozen? ⟨gd, 1, none⟩ = false := VW.out.frozen 1
    go_upto_region 6 with fail
    clear xd0 xd1 xf0 xf1
    obtain ⟨wv, hwv⟩ : ∃ wv, wv = ((w9.setCell ⟨gd, 0, none⟩ (.int .u64 (HI : Int))).setCell ⟨gd, 1, none⟩ (.bool false)) := ⟨_, rfl⟩
    rw [← hwv]
    replace CX := Lib.hid (show Blk wv (w.heap.size) 25 #[.bool s, .slice A (limbs n).length c, .slice B (limbs d0).length d] by rw [hwv]; exact ((CX.out).far (p := ⟨gd, 0, none⟩) (by simp; omega) _).far (p := ⟨gd, 1, none⟩) (by simp; omega) _)
    replace VW := Lib.hid (show Blk wv (gd) 34 #[.int .u64 (HI : Int), .bool false] by rw [hwv]; exact ((VW.out).put 0 (.int .u64 (HI : Int))).put 1 (.bool false))
    replace HW := Lib.hid (show Below w.heap.size w wv by rw [hwv]; exact bel_set (p := ⟨gd, 1, none⟩) (bel_set (p := ⟨gd, 0, none⟩) (HW.out) (by show w.heap.size ≤ gd; omega) _) (by show w.heap.size ≤ gd; omega) _)
    clear hwv
    clear CX0 CX1 CX2
    have CX0 : wv.cell? ⟨w.heap.size, 0, none⟩ = some (.bool s) := CX.out.cell 0
    have CX1 : wv.cell? ⟨w.heap.size, 1, none⟩ = some (.slice A (limbs n).length c) := CX.out.cell 1
    have CX2 : wv.cell? ⟨w.heap.size, 2, none⟩ = some (.slice B (limbs d0).length d) := CX.out.cell 2
    refine wp_region_typed 9 (TOf [VIs (.pointer (some ⟨gd, 0, none⟩)),
        VIs (.int .u64 (HI : Int)),
        VIs (.int .i64 sz),
        VIs (.int .u64 (K : Int)),
        VIs (.int .i64 sz),
        VIs (.int .i64 (p : Int)),
        VIs (.int .i64 ((p - 1 : Nat) : Int)),
        VIs (.int .u64 (HI : Int)),
        VIs (.bool true)]) (by kernel_rfl) (by kernel_rfl) (by kernel_rfl) (LiftAll.at_ (.cons (VIs.lift _) (.cons (VIs.lift _) (.cons (VIs.lift _) (.cons (VIs.lift _) (.cons (VIs.lift _) (.cons (VIs.lift _) (.cons (VIs.lift _) (.cons (VIs.lift _) (.cons (VIs.lift _) .nil)))))))))) (steps_all (steps_cons ?_ (steps_cons ?_ (steps_cons ?_ (steps_cons ?_ (steps_cons ?_ (steps_cons ?_ (steps_cons ?_ (steps_cons ?_ (steps_cons ?_ steps_zero)))))))))) ?fin
    · intro a0 w9 K9 hF hB hK hC
      have b8 := hF.base (k := 8) (v := .pointer (some ⟨gd, 0, none⟩)) (by kernel_rfl) rfl
      clear hF hB hK
      go_simp
      exact hC _ _ (bel_refl _) fun _ _ => rfl
    · intro a0 w9 K9 hF hB hK hC
      obtain ⟨v51, e51, z51⟩ := dep hK 0 (g := .data) (j := 0) (k := 51) rfl rfl rfl
      have z51 : v51 = .pointer (some ⟨gd, 0, none⟩) := z51
      subst z51
      have x9 : w9.cell? ⟨gd, 0, none⟩ = some (.int .u64 (HI : Int)) := (VW.out.below hB VW.out.lt).cell 0
      clear hF hB hK
      go_simp
      exact hC _ _ (bel_refl _) fun _ _ => rfl
    · intro a0 w9 K9 hF hB hK hC
      have b1 := hF.base (k := 1) (v := .int .i64 sz) (by kernel_rfl) rfl
      clear hF hB hK
      go_simp
      exact hC _ _ (bel_refl _) fun _ _ => rfl
    · intro a0 w9 K9 hF hB hK hC
      obtain ⟨v53, e53, z53⟩ := dep hK 0 (g := .data) (j := 2) (k := 53) rfl rfl rfl
      have z53 : v53 = .int .i64 sz := z53
      subst z53
      have HB9 := Lib.hid hB
      clear hF hB hK
      go_simp
      refine (refHigh_is HF.out _ HHI.out.2).mono ?_
      rintro e w7 ⟨rfl, hbl⟩
      exact hC _ _ hbl fun _ _ => rfl
    · intro a0 w9 K9 hF hB hK hC
      have b1 := hF.base (k := 1) (v := .int .i64 sz) (by kernel_rfl) rfl
      clear hF hB hK
      go_simp
      exact hC _ _ (bel_refl _) fun _ _ => rfl
    · intro a0 w9 K9 hF hB hK hC
      obtain ⟨v55, e55, z55⟩ := dep hK 0 (g := .data) (j := 4) (k := 55) rfl rfl rfl
      have z55 : v55 = .int .i64 sz := z55
      subst z55
      have HB9 := Lib.hid hB
      clear hF hB hK
      go_simp
      refine (refMant_any HF.out _).mono ?_
      rintro e w7 ⟨rfl, hbl⟩
      exact hC _ _ hbl fun _ _ => rfl
    · intro a0 w9 K9 hF hB hK hC
      obtain ⟨v56, e56, z56⟩ := dep hK 0 (g := .data) (j := 5) (k := 56) rfl rfl rfl
      have z56 : v56 = .int .i64 (p : Int) := z56
      subst z56
      have HB9 := Lib.hid hB
      clear hF hB hK
      go_simp
      exact hC _ _ (bel_refl _) fun _ _ => rfl
    · intro a0 w9 K9 hF hB hK hC
      obtain ⟨v54, e54, z54⟩ := dep hK 0 (g := .data) (j := 3) (k := 54) rfl rfl rfl
      have z54 : v54 = .int .u64 (K : Int) := z54
      subst z54
      obtain ⟨v57, e57, z57⟩ := dep hK 1 (g := .data) (j := 6) (k := 57) rfl rfl rfl
      have z57 : v57 = .int .i64 ((p - 1 : Nat) : Int) := z57
      subst z57
      have HB9 := Lib.hid hB
      clear hF hB hK
      go_simp
      exact hC _ _ (bel_refl _) fun _ _ => rfl
    · intro a0 w9 K9 hF hB hK hC
      obtain ⟨v52, e52, z52⟩ := dep hK 0 (g := .data) (j := 1) (k := 52) rfl rfl rfl
      have z52 : v52 = .int .u64 (HI : Int) := z52
      subst z52
      obtain ⟨v58, e58, z58⟩ := dep hK 1 (g := .data) (j := 7) (k := 58) rfl rfl rfl
      have z58 : v58 = .int .u64 (HI : Int) := z58
      subst z58
      have HB9 := Lib.hid hB
      clear hF hB hK
      go_simp
      exact hC _ _ (bel_refl _) fun _ _ => rfl
    case fin =>
      intro a0 w9 hF hB hK
      have b1 := hF.base (k := 1) (v := .int .i64 sz) (by kernel_rfl) rfl
      have b2 := hF.base (k := 2) (v := .pointer (some ⟨w.heap.size, 0, none⟩)) (by kernel_rfl) rfl
      have b4 := hF.base (k := 4) (v := .bool false) (by kernel_rfl) rfl
      have b5 := hF.base (k := 5) (v := .int .u64 0) (by kernel_rfl) rfl
      have b6 := hF.base (k := 6) (v := .bool false) (by kernel_rfl) rfl
      have b7 := hF.base (k := 7) (v := .int .i64 2) (by kernel_rfl) rfl
      have b8 := hF.base (k := 8) (v := .pointer (some ⟨gd, 0, none⟩)) (by kernel_rfl) rfl
      have hsz := hF.size
      have hdf := hF.defers
      clear hF
      obtain ⟨v59, e59, z59⟩ := known hK 8 (k := 59) (by decide) rfl
      have z59 : v59 = .bool true := z59
      subst z59
      clear hK
      obtain ⟨⟨l0⟩, df⟩ := a0
      have hs0 : l0.length = 103 := hsz
      clear hsz
      replace hdf : df = _ := hdf
      subst hdf
      obtain ⟨u, rfl⟩ := lits_103 hs0
      clear hs0
      have q1 : u 1 = _ := Option.some.inj b1
      clear b1
      have q2 : u 2 = _ := Option.some.inj b2
      clear b2
      have q4 : u 4 = _ := Option.some.inj b4
      clear b4
      have q5 : u 5 = _ := Option.some.inj b5
      clear b5
      have q6 : u 6 = _ := Option.some.inj b6
      clear b6
      have q7 : u 7 = _ := Option.some.inj b7
      clear b7
      have q8 : u 8 = _ := Option.some.inj b8
      clear b8
      have q59 : u 59 = _ := Option.some.inj e59
      clear e59
      rw [q1, q2, q4, q5, q6, q7, q8, q59]
      clear q1 q2 q4 q5 q6 q7 q8 q59
      have hbl := hB; clear hB
      replace CX := Lib.hid (CX.out.below hbl CX.out.lt)
      replace VW := Lib.hid (VW.out.below hbl VW.out.lt)
      replace HW := Lib.hid (bel_trans HW.out hbl); clear hbl
      clear CX0 CX1 CX2
      have CX0 : w9.cell? ⟨w.heap.size, 0, none⟩ = some (.bool s) := CX.out.cell 0
      have CX1 : w9.cell? ⟨w.heap.size, 1, none⟩ = some (.slice A (limbs n).length c) := CX.out.cell 1
      have CX2 : w9.cell? ⟨w.heap.size, 2, none⟩ = some (.slice B (limbs d0).length d) := CX.out.cell 2
      refine wpList_nil ?_
      clear CX0 CX1 CX2
      have CX0 : w9.cell? ⟨w.heap.size, 0, none⟩ = some (.bool s) := CX.out.cell 0
      have CX1 : w9.cell? ⟨w.heap.size, 1, none⟩ = some (.slice A (limbs n).length c) := CX.out.cell 1
      have CX2 : w9.cell? ⟨w.heap.size, 2, none⟩ = some (.slice B (limbs d0).length d) := CX.out.cell 2
      have VW0 : w9.cell? ⟨gd, 0, none⟩ = some (.int .u64 (HI : Int)) := VW.out.cell 0
      have VW1 : w9.cell? ⟨gd, 1, none⟩ = some (.bool false) := VW.out.cell 1
      go_wp2_with fail
      refine (alive3 _).mono ?_
      rintro e w4 ⟨rfl, hbl⟩
      replace CX := Lib.hid (CX.out.below hbl CX.out.lt)
      replace VW := Lib.hid (VW.out.below hbl VW.out.lt)
      replace HW := Lib.hid (bel_trans HW.out hbl); clear hbl
      clear CX0 CX1 CX2 VW0 VW1
      have CX0 : w4.cell? ⟨w.heap.size, 0, none⟩ = some (.bool s) := CX.out.cell 0
      have CX1 : w4.cell? ⟨w.heap.size, 1, none⟩ = some (.slice A (limbs n).length c) := CX.out.cell 1
      have CX2 : w4.cell? ⟨w.heap.size, 2, none⟩ = some (.slice B (limbs d0).length d) := CX.out.cell 2
      have VW0 : w4.cell? ⟨gd, 0, none⟩ = some (.int .u64 (HI : Int)) := VW.out.cell 0
      have VW1 : w4.cell? ⟨gd, 1, none⟩ = some (.bool false) := VW.out.cell 1
      go_wp2
      go_ret
      exact ⟨rfl, HW.out⟩

set_option maxRecDepth 100000 in
set_option maxHeartbeats 1000000 in
theorem near_pos_f (A B : Option Addr) (c d : Nat) (x0 y0 : List Nat) (n d0 : Nat) (sz : Int) (p q t cc : Nat) (ex : Bool) (w : World) (h1 : RdL w A x0) (h2 : RdL w B y0) (k1 : x0.length ≤ c) (k2 : y0.length ≤ d) (m1 : Lim x0) (m2 : Lim y0) (hf : Fm sz p q t) (z1 : (sz != 32) = false) (hn : n < Top) (hd : d0 < Top) (hq : QR ⟨false, n, d0⟩) (hC : Code p q n d0 cc ex) (ho : ¬ (t + q + 2) * 2 ^ (p - 1) ≤ cc) (e1 : few x0 = (limbs n)) (e2 : few y0 = (limbs d0)) :
    Calls Try.prog 3 #[.agg #[.bool false, .slice A x0.length c, .slice B y0.length d], .int .i64 sz] w (RetT w) := by
  obtain ⟨op1, op2, oq0, oq, ot, os1, os2⟩ := hf.ok
  have HF := Lib.hid hf; clear hf
  have HQ := Lib.hid (And.intro hn (And.intro hd hq)); clear hn hd hq
  have HR := Lib.hid ((rightB_q (s := false) HQ.out.1 HQ.out.2.1).2 HQ.out.2.2)
  have HC := Lib.hid hC; clear hC
  obtain ⟨HI, hHI⟩ : ∃ HI, HI = (t + q + 2) * 2 ^ (p - 1) := ⟨_, rfl⟩
  obtain ⟨K, hK⟩ : ∃ K, K = t + q + 2 := ⟨_, rfl⟩
  obtain ⟨H, hH⟩ : ∃ H, H = 2 ^ (p - 1) := ⟨_, rfl⟩
  have hH1 : H ≤ 4503599627370496 := by rw [hH]; exact Nat.pow_le_pow_right (n := 2) (j := 52) (by decide) (by omega)
  have hHI2 : HI ≤ 2047 * 4503599627370496 := by rw [hHI, ← hH]; exact Nat.mul_le_mul (by omega) hH1
  have s0 : IntKind.i64.wrap ((p : Int) - 1) = ((p - 1 : Nat) : Int) := by rw [IntKind.wrap_i64]; omega
  have hmin : min (p - 1) 64 = p - 1 := by omega
  have s3 : (2 : Int) ^ (p - 1) = (H : Int) := by rw [hH, Int.natCast_pow]; rfl
  have s1 : (K : Int) * (H : Int) = (HI : Int) := by rw [hHI, ← hH, ← hK, Int.natCast_mul]
  have s2 : IntKind.u64.wrap (HI : Int) = (HI : Int) := by rw [IntKind.wrap_u64]; omega
  have hne : cc ≠ HI := by rw [hHI]; intro h; exact ho (Nat.le_of_eq h.symm)
  have s4 : ((cc : Int) == (HI : Int)) = false := by simp only [beq_eq_false_iff_ne, ne_eq]; omega
  clear hne
  obtain ⟨U, hU⟩ : ∃ U, sgn false sz cc = U := ⟨_, rfl⟩
  have hUc : U = cc := by rw [← hU]; unfold sgn; rw [if_neg (by simp)]
  have HU := Lib.hid (And.intro hU hUc); clear hU hUc
  have HO := Lib.hid ho; clear ho
  have HHI := Lib.hid (And.intro hHI hK); clear hHI hK hH hH1 hHI2
  have R1 := Lib.hid (show RdL w A (limbs n) by rw [← e1]; exact h1.take 18); clear h1
  have R2 := Lib.hid (show RdL w B (limbs d0) by rw [← e2]; exact h2.take 18); clear h2
  have L18 := Lib.hid (show (limbs n).length ≤ 18 ∧ (limbs d0).length ≤ 18 by rw [← e1, ← e2]; exact ⟨few_le _, few_le _⟩)
  have KC := Lib.hid (show (limbs n).length ≤ c ∧ (limbs d0).length ≤ d by rw [← e1, ← e2]; exact ⟨Nat.le_trans (few_short _) k1, Nat.le_trans (few_short _) k2⟩)
  have M := Lib.hid (show Lim (limbs n) ∧ Lim (limbs d0) by rw [← e1, ← e2]; exact ⟨few_lim m1, few_lim m2⟩); clear m1 m2
  have F := Lib.hid (And.intro k1 (And.intro k2 (And.intro e1 e2))); clear k1 k2 e1 e2
  obtain ⟨wa, hwa⟩ : ∃ wa, wa = w.alloc (.cells #[.bool false, .slice A x0.length c, .slice B y0.length d] 25) := ⟨_, rfl⟩
  have hbl : Below w.heap.size w wa := by rw [hwa]; exact bel_alloc (bel_refl _) _
  have CX : Blk wa (w.heap.size) 25 #[.bool false, .slice A x0.length c, .slice B y0.length d] := by
    have hz := Blk.new (w) 25 #[.bool false, .slice A x0.length c, .slice B y0.length d]
    rw [hwa]
    exact hz
  replace R1 := Lib.hid (R1.out.below hbl)
  replace R2 := Lib.hid (R2.out.below hbl)
  have HW := Lib.hid hbl; clear hbl
  replace CX := Lib.hid CX
  go_enter Try.func3, Try.ntmps3
  go_wp2_with fail
  rw [← hwa]
  clear hwa
  have CX0 : wa.cell? ⟨w.heap.size, 0, none⟩ = some (.bool false) := CX.out.cell 0
  have CX1 : wa.cell? ⟨w.heap.size, 1, none⟩ = some (.slice A x0.length c) := CX.out.cell 1
  have CX2 : wa.cell? ⟨w.heap.size, 2, none⟩ = some (.slice B y0.length d) := CX.out.cell 2
  refine (few3_is false A B c d x0 y0 (limbs n) (limbs d0) _ F.out.1 F.out.2.1 F.out.2.2.1 F.out.2.2.2).mono ?_
  rintro e w1 ⟨rfl, hbl⟩
  replace R1 := Lib.hid (R1.out.below hbl)
  replace R2 := Lib.hid (R2.out.below hbl)
  replace CX := Lib.hid (CX.out.below hbl CX.out.lt)
  replace HW := Lib.hid (bel_trans HW.out hbl); clear hbl
  clear CX0 CX1 CX2
  have CX0 : w1.cell? ⟨w.heap.size, 0, none⟩ = some (.bool false) := CX.out.cell 0
  have CX1 : w1.cell? ⟨w.heap.size, 1, none⟩ = some (.slice A x0.length c) := CX.out.cell 1
  have CX2 : w1.cell? ⟨w.heap.size, 2, none⟩ = some (.slice B y0.length d) := CX.out.cell 2
  have pd0 := CX.out.cell 0
  have pf0 := CX.out.frozen 0
  have pd1 := CX.out.cell 1
  have pf1 := CX.out.frozen 1
  have pd2 := CX.out.cell 2
  have pf2 := CX.out.frozen 2
  go_upto_region 2 with fail
  clear pd0 pf0 pd1 pf1 pd2 pf2
  obtain ⟨wf, hwf⟩ : ∃ wf, wf = (((w1.setCell ⟨w.heap.size, 0, none⟩ (.bool false)).setCell ⟨w.heap.size, 1, none⟩ (.slice A (limbs n).length c)).setCell ⟨w.heap.size, 2, none⟩ (.slice B (limbs d0).length d)) := ⟨_, rfl⟩
  rw [← hwf]
  replace R1 := Lib.hid (show RdL wf _ _ by rw [hwf]; exact RdL.set3 (CX.out) (R1.out) _ _ _)
  replace R2 := Lib.hid (show RdL wf _ _ by rw [hwf]; exact RdL.set3 (CX.out) (R2.out) _ _ _)
  have CX_ := Lib.hid (show Blk wf (w.heap.size) 25 #[.bool false, .slice A (limbs n).length c, .slice B (limbs d0).length d] by rw [hwf]; exact (((CX.out).put 0 (.bool false)).put 1 (.slice A (limbs n).length c)).put 2 (.slice B (limbs d0).length d))
  replace CX := CX_; clear CX_
  replace HW := Lib.hid (show Below w.heap.size w wf by rw [hwf]; exact bel_set (p := ⟨w.heap.size, 2, none⟩) (bel_set (p := ⟨w.heap.size, 1, none⟩) (bel_set (p := ⟨w.heap.size, 0, none⟩) (HW.out) (by show w.heap.size ≤ w.heap.size; omega) _) (by show w.heap.size ≤ w.heap.size; omega) _) (by show w.heap.size ≤ w.heap.size; omega) _)
  clear hwf
  clear CX0 CX1 CX2
  have CX0 : wf.cell? ⟨w.heap.size, 0, none⟩ = some (.bool false) := CX.out.cell 0
  have CX1 : wf.cell? ⟨w.heap.size, 1, none⟩ = some (.slice A (limbs n).length c) := CX.out.cell 1
  have CX2 : wf.cell? ⟨w.heap.size, 2, none⟩ = some (.slice B (limbs d0).length d) := CX.out.cell 2
  go_wp2_with fail
  refine (rbits_fit false A B c d n d0 sz p q t _ R1.out R2.out KC.out.1 KC.out.2 HQ.out.1 HQ.out.2.1 HQ.out.2.2 HF.out HC.out HO.out HU.out.1).mono ?_
  rintro e w2 ⟨rfl, hbl⟩
  replace R1 := Lib.hid (R1.out.below hbl)
  replace R2 := Lib.hid (R2.out.below hbl)
  replace CX := Lib.hid (CX.out.below hbl CX.out.lt)
  replace HW := Lib.hid (bel_trans HW.out hbl); clear hbl
  clear CX0 CX1 CX2
  have CX0 : w2.cell? ⟨w.heap.size, 0, none⟩ = some (.bool false) := CX.out.cell 0
  have CX1 : w2.cell? ⟨w.heap.size, 1, none⟩ = some (.slice A (limbs n).length c) := CX.out.cell 1
  have CX2 : w2.cell? ⟨w.heap.size, 2, none⟩ = some (.slice B (limbs d0).length d) := CX.out.cell 2
  rw [HU.out.2]
  go_wp2_with fail
  refine (refRatRight_is false A B c d (limbs n) (limbs d0) _ R1.out R2.out M.out.1 M.out.2 L18.out.1 L18.out.2 HR.out).mono ?_
  rintro e w3 ⟨rfl, hbl⟩
  replace R1 := Lib.hid (R1.out.below hbl)
  replace R2 := Lib.hid (R2.out.below hbl)
  replace CX := Lib.hid (CX.out.below hbl CX.out.lt)
  replace HW := Lib.hid (bel_trans HW.out hbl); clear hbl
  clear CX0 CX1 CX2
  have CX0 : w3.cell? ⟨w.heap.size, 0, none⟩ = some (.bool false) := CX.out.cell 0
  have CX1 : w3.cell? ⟨w.heap.size, 1, none⟩ = some (.slice A (limbs n).length c) := CX.out.cell 1
  have CX2 : w3.cell? ⟨w.heap.size, 2, none⟩ = some (.slice B (limbs d0).length d) := CX.out.cell 2
  go_upto_region 5 with fail
  have hsz0 : w.heap.size < w3.heap.size := CX.out.lt
  refine wp_region_typed 10 (TOf [VIs (.pointer (some ⟨w.heap.size, 1, none⟩)),
      VIs (.slice A (limbs n).length c),
      VIs (.string (dec n)),
      VIs (.pointer (some ⟨w.heap.size, 2, none⟩)),
      VIs (.slice B (limbs d0).length d),
      VIs (.string (dec d0)),
      VIs (.agg #[.string (dec n), .string (dec d0)]),
      VIs (.int .i64 sz),
      VIs (.agg #[.int .u64 (cc : Int), .bool ex]),
      VNewF w3.heap.size 34 #[.int .u64 0, .bool false]]) (by kernel_rfl) (by kernel_rfl) (by kernel_rfl) (LiftAll.at_ (.cons (VIs.lift _) (.cons (VIs.lift _) (.cons (VIs.lift _) (.cons (VIs.lift _) (.cons (VIs.lift _) (.cons (VIs.lift _) (.cons (VIs.lift _) (.cons (VIs.lift _) (.cons (VIs.lift _) (.cons (VNewF.lift _ _ _) .nil))))))))))) (steps_all (steps_cons ?_ (steps_cons ?_ (steps_cons ?_ (steps_cons ?_ (steps_cons ?_ (steps_cons ?_ (steps_cons ?_ (steps_cons ?_ (steps_cons ?_ (steps_cons ?_ steps_zero))))))))))) ?fin
  · intro a0 w9 K9 hF hB hK hC
    have b2 := hF.base (k := 2) (v := .pointer (some ⟨w.heap.size, 0, none⟩)) (by kernel_rfl) rfl
    clear hF hB hK
    go_simp
    exact hC _ _ (bel_refl _) fun _ _ => rfl
  · intro a0 w9 K9 hF hB hK hC
    obtain ⟨v42, e42, z42⟩ := dep hK 0 (g := .data) (j := 0) (k := 42) rfl rfl rfl
    have z42 : v42 = .pointer (some ⟨w.heap.size, 1, none⟩) := z42
    subst z42
    have x9 : w9.cell? ⟨w.heap.size, 1, none⟩ = some (.slice A (limbs n).length c) := (CX.out.below hB CX.out.lt).cell 1
    clear hF hB hK
    go_simp
    exact hC _ _ (bel_refl _) fun _ _ => rfl
  · intro a0 w9 K9 hF hB hK hC
    obtain ⟨v43, e43, z43⟩ := dep hK 0 (g := .data) (j := 1) (k := 43) rfl rfl rfl
    have z43 : v43 = .slice A (limbs n).length c := z43
    subst z43
    have HB9 := Lib.hid hB
    clear hF hB hK
    go_simp
    refine (text_num A c n _ (R1.out.below HB9.out) HQ.out.1).mono ?_
    rintro e w7 ⟨rfl, hbl⟩
    exact hC _ _ hbl fun _ _ => rfl
  · intro a0 w9 K9 hF hB hK hC
    have b2 := hF.base (k := 2) (v := .pointer (some ⟨w.heap.size, 0, none⟩)) (by kernel_rfl) rfl
    clear hF hB hK
    go_simp
    exact hC _ _ (bel_refl _) fun _ _ => rfl
  · intro a0 w9 K9 hF hB hK hC
    obtain ⟨v45, e45, z45⟩ := dep hK 0 (g := .data) (j := 3) (k := 45) rfl rfl rfl
    have z45 : v45 = .pointer (some ⟨w.heap.size, 2, none⟩) := z45
    subst z45
    have x9 : w9.cell? ⟨w.heap.size, 2, none⟩ = some (.slice B (limbs d0).length d) := (CX.out.below hB CX.out.lt).cell 2
    clear hF hB hK
    go_simp
    exact hC _ _ (bel_refl _) fun _ _ => rfl
  · intro a0 w9 K9 hF hB hK hC
    obtain ⟨v46, e46, z46⟩ := dep hK 0 (g := .data) (j := 4) (k := 46) rfl rfl rfl
    have z46 : v46 = .slice B (limbs d0).length d := z46
    subst z46
    have HB9 := Lib.hid hB
    clear hF hB hK
    go_simp
    refine (text_num B d d0 _ (R2.out.below HB9.out) HQ.out.2.1).mono ?_
    rintro e w7 ⟨rfl, hbl⟩
    exact hC _ _ hbl fun _ _ => rfl
  · intro a0 w9 K9 hF hB hK hC
    obtain ⟨v44, e44, z44⟩ := dep hK 0 (g := .data) (j := 2) (k := 44) rfl rfl rfl
    have z44 : v44 = .string (dec n) := z44
    subst z44
    obtain ⟨v47, e47, z47⟩ := dep hK 1 (g := .data) (j := 5) (k := 47) rfl rfl rfl
    have z47 : v47 = .string (dec d0) := z47
    subst z47
    have HB9 := Lib.hid hB
    clear hF hB hK
    go_simp
    exact hC _ _ (bel_refl _) fun _ _ => rfl
  · intro a0 w9 K9 hF hB hK hC
    have b1 := hF.base (k := 1) (v := .int .i64 sz) (by kernel_rfl) rfl
    clear hF hB hK
    go_simp
    exact hC _ _ (bel_refl _) fun _ _ => rfl
  · intro a0 w9 K9 hF hB hK hC
    obtain ⟨v48, e48, z48⟩ := dep hK 0 (g := .data) (j := 6) (k := 48) rfl rfl rfl
    have z48 : v48 = .agg #[.string (dec n), .string (dec d0)] := z48
    subst z48
    obtain ⟨v49, e49, z49⟩ := dep hK 1 (g := .data) (j := 7) (k := 49) rfl rfl rfl
    have z49 : v49 = .int .i64 sz := z49
    subst z49
    have HB9 := Lib.hid hB
    clear hF hB hK
    go_simp
    refine (refNear_fit HF.out n d0 _ HQ.out.1 HQ.out.2.1 HQ.out.2.2.den HC.out HHI.out.1 (by rw [HHI.out.1]; exact HO.out)).mono ?_
    rintro e w7 ⟨rfl, hbl⟩
    exact hC _ _ hbl fun _ _ => rfl
  · intro a0 w9 K9 hF hB hK hC
    have HB9 := Lib.hid hB
    clear hF hB hK
    go_simp
    exact hC _ _ (bel_alloc (bel_refl _) _) fun _ _ => ⟨_, rfl, HB9.out.size, Blk.new _ _ _⟩
  case fin =>
    intro a0 w9 hF hB hK
    have b1 := hF.base (k := 1) (v := .int .i64 sz) (by kernel_rfl) rfl
    have b2 := hF.base (k := 2) (v := .pointer (some ⟨w.heap.size, 0, none⟩)) (by kernel_rfl) rfl
    have b4 := hF.base (k := 4) (v := .bool false) (by kernel_rfl) rfl
    have b5 := hF.base (k := 5) (v := .int .u64 (cc : Int)) (by kernel_rfl) rfl
    have b6 := hF.base (k := 6) (v := .bool ex) (by kernel_rfl) rfl
    have b7 := hF.base (k := 7) (v := .int .i64 0) (by kernel_rfl) rfl
    have hsz := hF.size
    have hdf := hF.defers
    clear hF
    obtain ⟨v8, e8, z8⟩ := known hK 9 (k := 8) (by decide) rfl
    have z8 : ∃ g, v8 = .pointer (some ⟨g, 0, none⟩) ∧ w3.heap.size ≤ g ∧ Blk w9 g 34 #[.int .u64 0, .bool false] := z8
    obtain ⟨gd, rfl, hgd, Zgd⟩ := z8
    obtain ⟨v50, e50, z50⟩ := known hK 8 (k := 50) (by decide) rfl
    have z50 : v50 = .agg #[.int .u64 (cc : Int), .bool ex] := z50
    subst z50
    clear hK
    obtain ⟨⟨l0⟩, df⟩ := a0
    have hs0 : l0.length = 103 := hsz
    clear hsz
    replace hdf : df = _ := hdf
    subst hdf
    obtain ⟨u, rfl⟩ := lits_103 hs0
    clear hs0
    have q1 : u 1 = _ := Option.some.inj b1
    clear b1
    have q2 : u 2 = _ := Option.some.inj b2
    clear b2
    have q4 : u 4 = _ := Option.some.inj b4
    clear b4
    have q5 : u 5 = _ := Option.some.inj b5
    clear b5
    have q6 : u 6 = _ := Option.some.inj b6
    clear b6
    have q7 : u 7 = _ := Option.some.inj b7
    clear b7
    have q8 : u 8 = _ := Option.some.inj e8
    clear e8
    have q50 : u 50 = _ := Option.some.inj e50
    clear e50
    rw [q1, q2, q4, q5, q6, q7, q8, q50]
    clear q1 q2 q4 q5 q6 q7 q8 q50
    have hbl := hB; clear hB
    replace R1 := Lib.hid (R1.out.below hbl)
    replace R2 := Lib.hid (R2.out.below hbl)
    replace CX := Lib.hid (CX.out.below hbl CX.out.lt)
    replace HW := Lib.hid (bel_trans HW.out hbl); clear hbl
    clear CX0 CX1 CX2
    have CX0 : w9.cell? ⟨w.heap.size, 0, none⟩ = some (.bool false) := CX.out.cell 0
    have CX1 : w9.cell? ⟨w.heap.size, 1, none⟩ = some (.slice A (limbs n).length c) := CX.out.cell 1
    have CX2 : w9.cell? ⟨w.heap.size, 2, none⟩ = some (.slice B (limbs d0).length d) := CX.out.cell 2
    simp only [List.drop_succ_cons, List.drop_zero]
    have gl : w.heap.size < gd := by omega
    replace Zgd := Lib.hid Zgd
    have VW := Zgd; clear Zgd
    have xd0 : w9.cell? ⟨gd, 0, none⟩ = some (.int .u64 0) := VW.out.cell 0
    have xf0 : w9.frozen? ⟨gd, 0, none⟩ = false := VW.out.frozen 0
    have xd1 : w9.cell? ⟨gd, 1, none⟩ = some (.bool false) := VW.out.cell 1
    have xf1 : w9.frozen? ⟨gd, 1, none⟩ = false := VW.out.frozen 1
    go_upto_region 6 with fail
    clear xd0 xd1 xf0 xf1
    obtain ⟨wv, hwv⟩ : ∃ wv, wv = ((w9.setCell ⟨gd, 0, none⟩ (.int .u64 (cc : Int))).setCell ⟨gd, 1, none⟩ (.bool ex)) := ⟨_, rfl⟩
    rw [← hwv]
    replace CX := Lib.hid (show Blk wv (w.heap.size) 25 #[.bool false, .slice A (limbs n).length c, .slice B (limbs d0).length d] by rw [hwv]; exact ((CX.out).far (p := ⟨gd, 0, none⟩) (by simp; omega) _).far (p := ⟨gd, 1, none⟩) (by simp; omega) _)
    replace VW := Lib.hid (show Blk wv (gd) 34 #[.int .u64 (cc : Int), .bool ex] by rw [hwv]; exact ((VW.out).put 0 (.int .u64 (cc : Int))).put 1 (.bool ex))
    replace HW := Lib.hid (show Below w.heap.size w wv by rw [hwv]; exact bel_set (p := ⟨gd, 1, none⟩) (bel_set (p := ⟨gd, 0, none⟩) (HW.out) (by show w.heap.size ≤ gd; omega) _) (by show w.heap.size ≤ gd; omega) _)
    clear hwv
    clear CX0 CX1 CX2
    have CX0 : wv.cell? ⟨w.heap.size, 0, none⟩ = some (.bool false) := CX.out.cell 0
    have CX1 : wv.cell? ⟨w.heap.size, 1, none⟩ = some (.slice A (limbs n).length c) := CX.out.cell 1
    have CX2 : wv.cell? ⟨w.heap.size, 2, none⟩ = some (.slice B (limbs d0).length d) := CX.out.cell 2
    refine wp_region_typed 9 (TOf [VIs (.pointer (some ⟨gd, 0, none⟩)),
        VIs (.int .u64 (cc : Int)),
        VIs (.int .i64 sz),
        VIs (.int .u64 (K : Int)),
        VIs (.int .i64 sz),
        VIs (.int .i64 (p : Int)),
        VIs (.int .i64 ((p - 1 : Nat) : Int)),
        VIs (.int .u64 (HI : Int)),
        VIs (.bool false)]) (by kernel_rfl) (by kernel_rfl) (by kernel_rfl) (LiftAll.at_ (.cons (VIs.lift _) (.cons (VIs.lift _) (.cons (VIs.lift _) (.cons (VIs.lift _) (.cons (VIs.lift _) (.cons (VIs.lift _) (.cons (VIs.lift _) (.cons (VIs.lift _) (.cons (VIs.lift _) .nil)))))))))) (steps_all (steps_cons ?_ (steps_cons ?_ (steps_cons ?_ (steps_cons ?_ (steps_cons ?_ (steps_cons ?_ (steps_cons ?_ (steps_cons ?_ (steps_cons ?_ steps_zero)))))))))) ?fin
    · intro a0 w9 K9 hF hB hK hC
      have b8 := hF.base (k := 8) (v := .pointer (some ⟨gd, 0, none⟩)) (by kernel_rfl) rfl
      clear hF hB hK
      go_simp
      exact hC _ _ (bel_refl _) fun _ _ => rfl
    · intro a0 w9 K9 hF hB hK hC
      obtain ⟨v51, e51, z51⟩ := dep hK 0 (g := .data) (j := 0) (k := 51) rfl rfl rfl
      have z51 : v51 = .pointer (some ⟨gd, 0, none⟩) := z51
      subst z51
      have x9 : w9.cell? ⟨gd, 0, none⟩ = some (.int .u64 (cc : Int)) := (VW.out.below hB VW.out.lt).cell 0
      clear hF hB hK
      go_simp
      exact hC _ _ (bel_refl _) fun _ _ => rfl
    · intro a0 w9 K9 hF hB hK hC
      have b1 := hF.base (k := 1) (v := .int .i64 sz) (by kernel_rfl) rfl
      clear hF hB hK
      go_simp
      exact hC _ _ (bel_refl _) fun _ _ => rfl
    · intro a0 w9 K9 hF hB hK hC
      obtain ⟨v53, e53, z53⟩ := dep hK 0 (g := .data) (j := 2) (k := 53) rfl rfl rfl
      have z53 : v53 = .int .i64 sz := z53
      subst z53
      have HB9 := Lib.hid hB
      clear hF hB hK
      go_simp
      refine (refHigh_is HF.out _ HHI.out.2).mono ?_
      rintro e w7 ⟨rfl, hbl⟩
      exact hC _ _ hbl fun _ _ => rfl
    · intro a0 w9 K9 hF hB hK hC
      have b1 := hF.base (k := 1) (v := .int .i64 sz) (by kernel_rfl) rfl
      clear hF hB hK
      go_simp
      exact hC _ _ (bel_refl _) fun _ _ => rfl
    · intro a0 w9 K9 hF hB hK hC
      obtain ⟨v55, e55, z55⟩ := dep hK 0 (g := .data) (j := 4) (k := 55) rfl rfl rfl
      have z55 : v55 = .int .i64 sz := z55
      subst z55
      have HB9 := Lib.hid hB
      clear hF hB hK
      go_simp
      refine (refMant_any HF.out _).mono ?_
      rintro e w7 ⟨rfl, hbl⟩
      exact hC _ _ hbl fun _ _ => rfl
    · intro a0 w9 K9 hF hB hK hC
      obtain ⟨v56, e56, z56⟩ := dep hK 0 (g := .data) (j := 5) (k := 56) rfl rfl rfl
      have z56 : v56 = .int .i64 (p : Int) := z56
      subst z56
      have HB9 := Lib.hid hB
      clear hF hB hK
      go_simp
      exact hC _ _ (bel_refl _) fun _ _ => rfl
    · intro a0 w9 K9 hF hB hK hC
      obtain ⟨v54, e54, z54⟩ := dep hK 0 (g := .data) (j := 3) (k := 54) rfl rfl rfl
      have z54 : v54 = .int .u64 (K : Int) := z54
      subst z54
      obtain ⟨v57, e57, z57⟩ := dep hK 1 (g := .data) (j := 6) (k := 57) rfl rfl rfl
      have z57 : v57 = .int .i64 ((p - 1 : Nat) : Int) := z57
      subst z57
      have HB9 := Lib.hid hB
      clear hF hB hK
      go_simp
      exact hC _ _ (bel_refl _) fun _ _ => rfl
    · intro a0 w9 K9 hF hB hK hC
      obtain ⟨v52, e52, z52⟩ := dep hK 0 (g := .data) (j := 1) (k := 52) rfl rfl rfl
      have z52 : v52 = .int .u64 (cc : Int) := z52
      subst z52
      obtain ⟨v58, e58, z58⟩ := dep hK 1 (g := .data) (j := 7) (k := 58) rfl rfl rfl
      have z58 : v58 = .int .u64 (HI : Int) := z58
      subst z58
      have HB9 := Lib.hid hB
      clear hF hB hK
      go_simp
      exact hC _ _ (bel_refl _) fun _ _ => rfl
    case fin =>
      intro a0 w9 hF hB hK
      have b1 := hF.base (k := 1) (v := .int .i64 sz) (by kernel_rfl) rfl
      have b2 := hF.base (k := 2) (v := .pointer (some ⟨w.heap.size, 0, none⟩)) (by kernel_rfl) rfl
      have b4 := hF.base (k := 4) (v := .bool false) (by kernel_rfl) rfl
      have b5 := hF.base (k := 5) (v := .int .u64 (cc : Int)) (by kernel_rfl) rfl
      have b6 := hF.base (k := 6) (v := .bool ex) (by kernel_rfl) rfl
      have b7 := hF.base (k := 7) (v := .int .i64 0) (by kernel_rfl) rfl
      have b8 := hF.base (k := 8) (v := .pointer (some ⟨gd, 0, none⟩)) (by kernel_rfl) rfl
      have hsz := hF.size
      have hdf := hF.defers
      clear hF
      obtain ⟨v59, e59, z59⟩ := known hK 8 (k := 59) (by decide) rfl
      have z59 : v59 = .bool false := z59
      subst z59
      clear hK
      obtain ⟨⟨l0⟩, df⟩ := a0
      have hs0 : l0.length = 103 := hsz
      clear hsz
      replace hdf : df = _ := hdf
      subst hdf
      obtain ⟨u, rfl⟩ := lits_103 hs0
      clear hs0
      have q1 : u 1 = _ := Option.some.inj b1
      clear b1
      have q2 : u 2 = _ := Option.some.inj b2
      clear b2
      have q4 : u 4 = _ := Option.some.inj b4
      clear b4
      have q5 : u 5 = _ := Option.some.inj b5
      clear b5
      have q6 : u 6 = _ := Option.some.inj b6
      clear b6
      have q7 : u 7 = _ := Option.some.inj b7
      clear b7
      have q8 : u 8 = _ := Option.some.inj b8
      clear b8
      have q59 : u 59 = _ := Option.some.inj e59
      clear e59
      rw [q1, q2, q4, q5, q6, q7, q8, q59]
      clear q1 q2 q4 q5 q6 q7 q8 q59
      have hbl := hB; clear hB
      replace CX := Lib.hid (CX.out.below hbl CX.out.lt)
      replace VW := Lib.hid (VW.out.below hbl VW.out.lt)
      replace HW := Lib.hid (bel_trans HW.out hbl); clear hbl
      clear CX0 CX1 CX2
      have CX0 : w9.cell? ⟨w.heap.size, 0, none⟩ = some (.bool false) := CX.out.cell 0
      have CX1 : w9.cell? ⟨w.heap.size, 1, none⟩ = some (.slice A (limbs n).length c) := CX.out.cell 1
      have CX2 : w9.cell? ⟨w.heap.size, 2, none⟩ = some (.slice B (limbs d0).length d) := CX.out.cell 2
      refine wpList_nil ?_
      clear CX0 CX1 CX2
      have CX0 : w9.cell? ⟨w.heap.size, 0, none⟩ = some (.bool false) := CX.out.cell 0
      have CX1 : w9.cell? ⟨w.heap.size, 1, none⟩ = some (.slice A (limbs n).length c) := CX.out.cell 1
      have CX2 : w9.cell? ⟨w.heap.size, 2, none⟩ = some (.slice B (limbs d0).length d) := CX.out.cell 2
      have VW0 : w9.cell? ⟨gd, 0, none⟩ = some (.int .u64 (cc : Int)) := VW.out.cell 0
      have VW1 : w9.cell? ⟨gd, 1, none⟩ = some (.bool ex) := VW.out.cell 1
      go_wp2_with fail
      refine (alive3 _).mono ?_
      rintro e w4 ⟨rfl, hbl⟩
      replace CX := Lib.hid (CX.out.below hbl CX.out.lt)
      replace VW := Lib.hid (VW.out.below hbl VW.out.lt)
      replace HW := Lib.hid (bel_trans HW.out hbl); clear hbl
      clear CX0 CX1 CX2 VW0 VW1
      have CX0 : w4.cell? ⟨w.heap.size, 0, none⟩ = some (.bool false) := CX.out.cell 0
      have CX1 : w4.cell? ⟨w.heap.size, 1, none⟩ = some (.slice A (limbs n).length c) := CX.out.cell 1
      have CX2 : w4.cell? ⟨w.heap.size, 2, none⟩ = some (.slice B (limbs d0).length d) := CX.out.cell 2
      have VW0 : w4.cell? ⟨gd, 0, none⟩ = some (.int .u64 (cc : Int)) := VW.out.cell 0
      have VW1 : w4.cell? ⟨gd, 1, none⟩ = some (.bool ex) := VW.out.cell 1
      go_wp2
      go_ret
      exact ⟨rfl, HW.out⟩

set_option maxRecDepth 100000 in
set_option maxHeartbeats 1000000 in
theorem near_zero_f (A B : Option Addr) (c d : Nat) (x0 y0 : List Nat) (n d0 : Nat) (sz : Int) (p q t cc : Nat) (ex : Bool) (w : World) (h1 : RdL w A x0) (h2 : RdL w B y0) (k1 : x0.length ≤ c) (k2 : y0.length ≤ d) (m1 : Lim x0) (m2 : Lim y0) (hf : Fm sz p q t) (z1 : (sz != 32) = false) (hn : n < Top) (hd : d0 < Top) (hq : QR ⟨true, n, d0⟩) (hC : Code p q n d0 cc ex) (ho : ¬ (t + q + 2) * 2 ^ (p - 1) ≤ cc) (hz : cc = 0) (e1 : few x0 = (limbs n)) (e2 : few y0 = (limbs d0)) :
    Calls Try.prog 3 #[.agg #[.bool true, .slice A x0.length c, .slice B y0.length d], .int .i64 sz] w (RetT w) := by
  obtain ⟨op1, op2, oq0, oq, ot, os1, os2⟩ := hf.ok
  have HF := Lib.hid hf; clear hf
  have HQ := Lib.hid (And.intro hn (And.intro hd hq)); clear hn hd hq
  have HR := Lib.hid ((rightB_q (s := true) HQ.out.1 HQ.out.2.1).2 HQ.out.2.2)
  have HC := Lib.hid hC; clear hC
  obtain ⟨HI, hHI⟩ : ∃ HI, HI = (t + q + 2) * 2 ^ (p - 1) := ⟨_, rfl⟩
  obtain ⟨K, hK⟩ : ∃ K, K = t + q + 2 := ⟨_, rfl⟩
  obtain ⟨H, hH⟩ : ∃ H, H = 2 ^ (p - 1) := ⟨_, rfl⟩
  have hH1 : H ≤ 4503599627370496 := by rw [hH]; exact Nat.pow_le_pow_right (n := 2) (j := 52) (by decide) (by omega)
  have hHI2 : HI ≤ 2047 * 4503599627370496 := by rw [hHI, ← hH]; exact Nat.mul_le_mul (by omega) hH1
  have s0 : IntKind.i64.wrap ((p : Int) - 1) = ((p - 1 : Nat) : Int) := by rw [IntKind.wrap_i64]; omega
  have hmin : min (p - 1) 64 = p - 1 := by omega
  have s3 : (2 : Int) ^ (p - 1) = (H : Int) := by rw [hH, Int.natCast_pow]; rfl
  have s1 : (K : Int) * (H : Int) = (HI : Int) := by rw [hHI, ← hH, ← hK, Int.natCast_mul]
  have s2 : IntKind.u64.wrap (HI : Int) = (HI : Int) := by rw [IntKind.wrap_u64]; omega
  have hne : cc ≠ HI := by rw [hHI]; intro h; exact ho (Nat.le_of_eq h.symm)
  have s4 : ((cc : Int) == (HI : Int)) = false := by simp only [beq_eq_false_iff_ne, ne_eq]; omega
  clear hne
  obtain ⟨U, hU⟩ : ∃ U, sgn true sz cc = U := ⟨_, rfl⟩
  have hUc : U = cc := by rw [← hU]; unfold sgn; rw [if_neg (by simp [hz])]
  have HU := Lib.hid (And.intro hU hUc); clear hU hUc
  have c1 : ((cc : Int) != 0) = false := by simp [hz]
  clear hz
  have HO := Lib.hid ho; clear ho
  have HHI := Lib.hid (And.intro hHI hK); clear hHI hK hH hH1 hHI2
  have R1 := Lib.hid (show RdL w A (limbs n) by rw [← e1]; exact h1.take 18); clear h1
  have R2 := Lib.hid (show RdL w B (limbs d0) by rw [← e2]; exact h2.take 18); clear h2
  have L18 := Lib.hid (show (limbs n).length ≤ 18 ∧ (limbs d0).length ≤ 18 by rw [← e1, ← e2]; exact ⟨few_le _, few_le _⟩)
  have KC := Lib.hid (show (limbs n).length ≤ c ∧ (limbs d0).length ≤ d by rw [← e1, ← e2]; exact ⟨Nat.le_trans (few_short _) k1, Nat.le_trans (few_short _) k2⟩)
  have M := Lib.hid (show Lim (limbs n) ∧ Lim (limbs d0) by rw [← e1, ← e2]; exact ⟨few_lim m1, few_lim m2⟩); clear m1 m2
  have F := Lib.hid (And.intro k1 (And.intro k2 (And.intro e1 e2))); clear k1 k2 e1 e2
  obtain ⟨wa, hwa⟩ : ∃ wa, wa = w.alloc (.cells #[.bool true, .slice A x0.length c, .slice B y0.length d] 25) := ⟨_, rfl⟩
  have hbl : Below w.heap.size w wa := by rw [hwa]; exact bel_alloc (bel_refl _) _
  have CX : Blk wa (w.heap.size) 25 #[.bool true, .slice A x0.length c, .slice B y0.length d] := by
    have hz := Blk.new (w) 25 #[.bool true, .slice A x0.length c, .slice B y0.length d]
    rw [hwa]
    exact hz
  replace R1 := Lib.hid (R1.out.below hbl)
  replace R2 := Lib.hid (R2.out.below hbl)
  have HW := Lib.hid hbl; clear hbl
  replace CX := Lib.hid CX
  go_enter Try.func3, Try.ntmps3
  go_wp2_with fail
  rw [← hwa]
  clear hwa
  have CX0 : wa.cell? ⟨w.heap.size, 0, none⟩ = some (.bool true) := CX.out.cell 0
  have CX1 : wa.cell? ⟨w.heap.size, 1, none⟩ = some (.slice A x0.length c) := CX.out.cell 1
  have CX2 : wa.cell? ⟨w.heap.size, 2, none⟩ = some (.slice B y0.length d) := CX.out.cell 2
  refine (few3_is true A B c d x0 y0 (limbs n) (limbs d0) _ F.out.1 F.out.2.1 F.out.2.2.1 F.out.2.2.2).mono ?_
  rintro e w1 ⟨rfl, hbl⟩
  replace R1 := Lib.hid (R1.out.below hbl)
  replace R2 := Lib.hid (R2.out.below hbl)
  replace CX := Lib.hid (CX.out.below hbl CX.out.lt)
  replace HW := Lib.hid (bel_trans HW.out hbl); clear hbl
  clear CX0 CX1 CX2
  have CX0 : w1.cell? ⟨w.heap.size, 0, none⟩ = some (.bool true) := CX.out.cell 0
  have CX1 : w1.cell? ⟨w.heap.size, 1, none⟩ = some (.slice A x0.length c) := CX.out.cell 1
  have CX2 : w1.cell? ⟨w.heap.size, 2, none⟩ = some (.slice B y0.length d) := CX.out.cell 2
  have pd0 := CX.out.cell 0
  have pf0 := CX.out.frozen 0
  have pd1 := CX.out.cell 1
  have pf1 := CX.out.frozen 1
  have pd2 := CX.out.cell 2
  have pf2 := CX.out.frozen 2
  go_upto_region 2 with fail
  clear pd0 pf0 pd1 pf1 pd2 pf2
  obtain ⟨wf, hwf⟩ : ∃ wf, wf = (((w1.setCell ⟨w.heap.size, 0, none⟩ (.bool true)).setCell ⟨w.heap.size, 1, none⟩ (.slice A (limbs n).length c)).setCell ⟨w.heap.size, 2, none⟩ (.slice B (limbs d0).length d)) := ⟨_, rfl⟩
  rw [← hwf]
  replace R1 := Lib.hid (show RdL wf _ _ by rw [hwf]; exact RdL.set3 (CX.out) (R1.out) _ _ _)
  replace R2 := Lib.hid (show RdL wf _ _ by rw [hwf]; exact RdL.set3 (CX.out) (R2.out) _ _ _)
  have CX_ := Lib.hid (show Blk wf (w.heap.size) 25 #[.bool true, .slice A (limbs n).length c, .slice B (limbs d0).length d] by rw [hwf]; exact (((CX.out).put 0 (.bool true)).put 1 (.slice A (limbs n).length c)).put 2 (.slice B (limbs d0).length d))
  replace CX := CX_; clear CX_
  replace HW := Lib.hid (show Below w.heap.size w wf by rw [hwf]; exact bel_set (p := ⟨w.heap.size, 2, none⟩) (bel_set (p := ⟨w.heap.size, 1, none⟩) (bel_set (p := ⟨w.heap.size, 0, none⟩) (HW.out) (by show w.heap.size ≤ w.heap.size; omega) _) (by show w.heap.size ≤ w.heap.size; omega) _) (by show w.heap.size ≤ w.heap.size; omega) _)
  clear hwf
  clear CX0 CX1 CX2
  have CX0 : wf.cell? ⟨w.heap.size, 0, none⟩ = some (.bool true) := CX.out.cell 0
  have CX1 : wf.cell? ⟨w.heap.size, 1, none⟩ = some (.slice A (limbs n).length c) := CX.out.cell 1
  have CX2 : wf.cell? ⟨w.heap.size, 2, none⟩ = some (.slice B (limbs d0).length d) := CX.out.cell 2
  go_wp2_with fail
  refine (rbits_fit true A B c d n d0 sz p q t _ R1.out R2.out KC.out.1 KC.out.2 HQ.out.1 HQ.out.2.1 HQ.out.2.2 HF.out HC.out HO.out HU.out.1).mono ?_
  rintro e w2 ⟨rfl, hbl⟩
  replace R1 := Lib.hid (R1.out.below hbl)
  replace R2 := Lib.hid (R2.out.below hbl)
  replace CX := Lib.hid (CX.out.below hbl CX.out.lt)
  replace HW := Lib.hid (bel_trans HW.out hbl); clear hbl
  clear CX0 CX1 CX2
  have CX0 : w2.cell? ⟨w.heap.size, 0, none⟩ = some (.bool true) := CX.out.cell 0
  have CX1 : w2.cell? ⟨w.heap.size, 1, none⟩ = some (.slice A (limbs n).length c) := CX.out.cell 1
  have CX2 : w2.cell? ⟨w.heap.size, 2, none⟩ = some (.slice B (limbs d0).length d) := CX.out.cell 2
  rw [HU.out.2]
  go_wp2_with fail
  refine (refRatRight_is true A B c d (limbs n) (limbs d0) _ R1.out R2.out M.out.1 M.out.2 L18.out.1 L18.out.2 HR.out).mono ?_
  rintro e w3 ⟨rfl, hbl⟩
  replace R1 := Lib.hid (R1.out.below hbl)
  replace R2 := Lib.hid (R2.out.below hbl)
  replace CX := Lib.hid (CX.out.below hbl CX.out.lt)
  replace HW := Lib.hid (bel_trans HW.out hbl); clear hbl
  clear CX0 CX1 CX2
  have CX0 : w3.cell? ⟨w.heap.size, 0, none⟩ = some (.bool true) := CX.out.cell 0
  have CX1 : w3.cell? ⟨w.heap.size, 1, none⟩ = some (.slice A (limbs n).length c) := CX.out.cell 1
  have CX2 : w3.cell? ⟨w.heap.size, 2, none⟩ = some (.slice B (limbs d0).length d) := CX.out.cell 2
  go_upto_region 5 with fail
  have hsz0 : w.heap.size < w3.heap.size := CX.out.lt
  refine wp_region_typed 10 (TOf [VIs (.pointer (some ⟨w.heap.size, 1, none⟩)),
      VIs (.slice A (limbs n).length c),
      VIs (.string (dec n)),
      VIs (.pointer (some ⟨w.heap.size, 2, none⟩)),
      VIs (.slice B (limbs d0).length d),
      VIs (.string (dec d0)),
      VIs (.agg #[.string (dec n), .string (dec d0)]),
      VIs (.int .i64 sz),
      VIs (.agg #[.int .u64 (cc : Int), .bool ex]),
      VNewF w3.heap.size 34 #[.int .u64 0, .bool false]]) (by kernel_rfl) (by kernel_rfl) (by kernel_rfl) (LiftAll.at_ (.cons (VIs.lift _) (.cons (VIs.lift _) (.cons (VIs.lift _) (.cons (VIs.lift _) (.cons (VIs.lift _) (.cons (VIs.lift _) (.cons (VIs.lift _) (.cons (VIs.lift _) (.cons (VIs.lift _) (.cons (VNewF.lift _ _ _) .nil))))))))))) (steps_all (steps_cons ?_ (steps_cons ?_ (steps_cons ?_ (steps_cons ?_ (steps_cons ?_ (steps_cons ?_ (steps_cons ?_ (steps_cons ?_ (steps_cons ?_ (steps_cons ?_ steps_zero))))))))))) ?fin
  · intro a0 w9 K9 hF hB hK hC
    have b2 := hF.base (k := 2) (v := .pointer (some ⟨w.heap.size, 0, none⟩)) (by kernel_rfl) rfl
    clear hF hB hK
    go_simp
    exact hC _ _ (bel_refl _) fun _ _ => rfl
  · intro a0 w9 K9 hF hB hK hC
    obtain ⟨v42, e42, z42⟩ := dep hK 0 (g := .data) (j := 0) (k := 42) rfl rfl rfl
    have z42 : v42 = .pointer (some ⟨w.heap.size, 1, none⟩) := z42
    subst z42
    have x9 : w9.cell? ⟨w.heap.size, 1, none⟩ = some (.slice A (limbs n).length c) := (CX.out.below hB CX.out.lt).cell 1
    clear hF hB hK
    go_simp
    exact hC _ _ (bel_refl _) fun _ _ => rfl
  · intro a0 w9 K9 hF hB hK hC
    obtain ⟨v43, e43, z43⟩ := dep hK 0 (g := .data) (j := 1) (k := 43) rfl rfl rfl
    have z43 : v43 = .slice A (limbs n).length c := z43
    subst z43
    have HB9 := Lib.hid hB
    clear hF hB hK
    go_simp
    refine (text_num A c n _ (R1.out.below HB9.out) HQ.out.1).mono ?_
    rintro e w7 ⟨rfl, hbl⟩
    exact hC _ _ hbl fun _ _ => rfl
  · intro a0 w9 K9 hF hB hK hC
    have b2 := hF.base (k := 2) (v := .pointer (some ⟨w.heap.size, 0, none⟩)) (by kernel_rfl) rfl
    clear hF hB hK
    go_simp
    exact hC _ _ (bel_refl _) fun _ _ => rfl
  · intro a0 w9 K9 hF hB hK hC
    obtain ⟨v45, e45, z45⟩ := dep hK 0 (g := .data) (j := 3) (k := 45) rfl rfl rfl
    have z45 : v45 = .pointer (some ⟨w.heap.size, 2, none⟩) := z45
    subst z45
    have x9 : w9.cell? ⟨w.heap.size, 2, none⟩ = some (.slice B (limbs d0).length d) := (CX.out.below hB CX.out.lt).cell 2
    clear hF hB hK
    go_simp
    exact hC _ _ (bel_refl _) fun _ _ => rfl
  · intro a0 w9 K9 hF hB hK hC
    obtain ⟨v46, e46, z46⟩ := dep hK 0 (g := .data) (j := 4) (k := 46) rfl rfl rfl
    have z46 : v46 = .slice B (limbs d0).length d := z46
    subst z46
    have HB9 := Lib.hid hB
    clear hF hB hK
    go_simp
    refine (text_num B d d0 _ (R2.out.below HB9.out) HQ.out.2.1).mono ?_
    rintro e w7 ⟨rfl, hbl⟩
    exact hC _ _ hbl fun _ _ => rfl
  · intro a0 w9 K9 hF hB hK hC
    obtain ⟨v44, e44, z44⟩ := dep hK 0 (g := .data) (j := 2) (k := 44) rfl rfl rfl
    have z44 : v44 = .string (dec n) := z44
    subst z44
    obtain ⟨v47, e47, z47⟩ := dep hK 1 (g := .data) (j := 5) (k := 47) rfl rfl rfl
    have z47 : v47 = .string (dec d0) := z47
    subst z47
    have HB9 := Lib.hid hB
    clear hF hB hK
    go_simp
    exact hC _ _ (bel_refl _) fun _ _ => rfl
  · intro a0 w9 K9 hF hB hK hC
    have b1 := hF.base (k := 1) (v := .int .i64 sz) (by kernel_rfl) rfl
    clear hF hB hK
    go_simp
    exact hC _ _ (bel_refl _) fun _ _ => rfl
  · intro a0 w9 K9 hF hB hK hC
    obtain ⟨v48, e48, z48⟩ := dep hK 0 (g := .data) (j := 6) (k := 48) rfl rfl rfl
    have z48 : v48 = .agg #[.string (dec n), .string (dec d0)] := z48
    subst z48
    obtain ⟨v49, e49, z49⟩ := dep hK 1 (g := .data) (j := 7) (k := 49) rfl rfl rfl
    have z49 : v49 = .int .i64 sz := z49
    subst z49
    have HB9 := Lib.hid hB
    clear hF hB hK
    go_simp
    refine (refNear_fit HF.out n d0 _ HQ.out.1 HQ.out.2.1 HQ.out.2.2.den HC.out HHI.out.1 (by rw [HHI.out.1]; exact HO.out)).mono ?_
    rintro e w7 ⟨rfl, hbl⟩
    exact hC _ _ hbl fun _ _ => rfl
  · intro a0 w9 K9 hF hB hK hC
    have HB9 := Lib.hid hB
    clear hF hB hK
    go_simp
    exact hC _ _ (bel_alloc (bel_refl _) _) fun _ _ => ⟨_, rfl, HB9.out.size, Blk.new _ _ _⟩
  case fin =>
    intro a0 w9 hF hB hK
    have b1 := hF.base (k := 1) (v := .int .i64 sz) (by kernel_rfl) rfl
    have b2 := hF.base (k := 2) (v := .pointer (some ⟨w.heap.size, 0, none⟩)) (by kernel_rfl) rfl
    have b4 := hF.base (k := 4) (v := .bool false) (by kernel_rfl) rfl
    have b5 := hF.base (k := 5) (v := .int .u64 (cc : Int)) (by kernel_rfl) rfl
    have b6 := hF.base (k := 6) (v := .bool ex) (by kernel_rfl) rfl
    have b7 := hF.base (k := 7) (v := .int .i64 0) (by kernel_rfl) rfl
    have hsz := hF.size
    have hdf := hF.defers
    clear hF
    obtain ⟨v8, e8, z8⟩ := known hK 9 (k := 8) (by decide) rfl
    have z8 : ∃ g, v8 = .pointer (some ⟨g, 0, none⟩) ∧ w3.heap.size ≤ g ∧ Blk w9 g 34 #[.int .u64 0, .bool false] := z8
    obtain ⟨gd, rfl, hgd, Zgd⟩ := z8
    obtain ⟨v50, e50, z50⟩ := known hK 8 (k := 50) (by decide) rfl
    have z50 : v50 = .agg #[.int .u64 (cc : Int), .bool ex] := z50
    subst z50
    clear hK
    obtain ⟨⟨l0⟩, df⟩ := a0
    have hs0 : l0.length = 103 := hsz
    clear hsz
    replace hdf : df = _ := hdf
    subst hdf
    obtain ⟨u, rfl⟩ := lits_103 hs0
    clear hs0
    have q1 : u 1 = _ := Option.some.inj b1
    clear b1
    have q2 : u 2 = _ := Option.some.inj b2
    clear b2
    have q4 : u 4 = _ := Option.some.inj b4
    clear b4
    have q5 : u 5 = _ := Option.some.inj b5
    clear b5
    have q6 : u 6 = _ := Option.some.inj b6
    clear b6
    have q7 : u 7 = _ := Option.some.inj b7
    clear b7
    have q8 : u 8 = _ := Option.some.inj e8
    clear e8
    have q50 : u 50 = _ := Option.some.inj e50
    clear e50
    rw [q1, q2, q4, q5, q6, q7, q8, q50]
    clear q1 q2 q4 q5 q6 q7 q8 q50
    have hbl := hB; clear hB
    replace R1 := Lib.hid (R1.out.below hbl)
    replace R2 := Lib.hid (R2.out.below hbl)
    replace CX := Lib.hid (CX.out.below hbl CX.out.lt)
    replace HW := Lib.hid (bel_trans HW.out hbl); clear hbl
    clear CX0 CX1 CX2
    have CX0 : w9.cell? ⟨w.heap.size, 0, none⟩ = some (.bool true) := CX.out.cell 0
    have CX1 : w9.cell? ⟨w.heap.size, 1, none⟩ = some (.slice A (limbs n).length c) := CX.out.cell 1
    have CX2 : w9.cell? ⟨w.heap.size, 2, none⟩ = some (.slice B (limbs d0).length d) := CX.out.cell 2
    simp only [List.drop_succ_cons, List.drop_zero]
    have gl : w.heap.size < gd := by omega
    replace Zgd := Lib.hid Zgd
    have VW := Zgd; clear Zgd
    have xd0 : w9.cell? ⟨gd, 0, none⟩ = some (.int .u64 0) := VW.out.cell 0
    have xf0 : w9.frozen? ⟨gd, 0, none⟩ = false := VW.out.frozen 0
    have xd1 : w9.cell? ⟨gd, 1, none⟩ = some (.bool false) := VW.out.cell 1
    have xf1 : w9.frozen? ⟨gd, 1, none⟩ = false := VW.out.frozen 1
    go_upto_region 6 with fail
    clear xd0 xd1 xf0 xf1
    obtain ⟨wv, hwv⟩ : ∃ wv, wv = ((w9.setCell ⟨gd, 0, none⟩ (.int .u64 (cc : Int))).setCell ⟨gd, 1, none⟩ (.bool ex)) := ⟨_, rfl⟩
    rw [← hwv]
    replace CX := Lib.hid (show Blk wv (w.heap.size) 25 #[.bool true, .slice A (limbs n).length c, .slice B (limbs d0).length d] by rw [hwv]; exact ((CX.out).far (p := ⟨gd, 0, none⟩) (by simp; omega) _).far (p := ⟨gd, 1, none⟩) (by simp; omega) _)
    replace VW := Lib.hid (show Blk wv (gd) 34 #[.int .u64 (cc : Int), .bool ex] by rw [hwv]; exact ((VW.out).put 0 (.int .u64 (cc : Int))).put 1 (.bool ex))
    replace HW := Lib.hid (show Below w.heap.size w wv by rw [hwv]; exact bel_set (p := ⟨gd, 1, none⟩) (bel_set (p := ⟨gd, 0, none⟩) (HW.out) (by show w.heap.size ≤ gd; omega) _) (by show w.heap.size ≤ gd; omega) _)
    clear hwv
    clear CX0 CX1 CX2
    have CX0 : wv.cell? ⟨w.heap.size, 0, none⟩ = some (.bool true) := CX.out.cell 0
    have CX1 : wv.cell? ⟨w.heap.size, 1, none⟩ = some (.slice A (limbs n).length c) := CX.out.cell 1
    have CX2 : wv.cell? ⟨w.heap.size, 2, none⟩ = some (.slice B (limbs d0).length d) := CX.out.cell 2
    refine wp_region_typed 9 (TOf [VIs (.pointer (some ⟨gd, 0, none⟩)),
        VIs (.int .u64 (cc : Int)),
        VIs (.int .i64 sz),
        VIs (.int .u64 (K : Int)),
        VIs (.int .i64 sz),
        VIs (.int .i64 (p : Int)),
        VIs (.int .i64 ((p - 1 : Nat) : Int)),
        VIs (.int .u64 (HI : Int)),
        VIs (.bool false)]) (by kernel_rfl) (by kernel_rfl) (by kernel_rfl) (LiftAll.at_ (.cons (VIs.lift _) (.cons (VIs.lift _) (.cons (VIs.lift _) (.cons (VIs.lift _) (.cons (VIs.lift _) (.cons (VIs.lift _) (.cons (VIs.lift _) (.cons (VIs.lift _) (.cons (VIs.lift _) .nil)))))))))) (steps_all (steps_cons ?_ (steps_cons ?_ (steps_cons ?_ (steps_cons ?_ (steps_cons ?_ (steps_cons ?_ (steps_cons ?_ (steps_cons ?_ (steps_cons ?_ steps_zero)))))))))) ?fin
    · intro a0 w9 K9 hF hB hK hC
      have b8 := hF.base (k := 8) (v := .pointer (some ⟨gd, 0, none⟩)) (by kernel_rfl) rfl
      clear hF hB hK
      go_simp
      exact hC _ _ (bel_refl _) fun _ _ => rfl
    · intro a0 w9 K9 hF hB hK hC
      obtain ⟨v51, e51, z51⟩ := dep hK 0 (g := .data) (j := 0) (k := 51) rfl rfl rfl
      have z51 : v51 = .pointer (some ⟨gd, 0, none⟩) := z51
      subst z51
      have x9 : w9.cell? ⟨gd, 0, none⟩ = some (.int .u64 (cc : Int)) := (VW.out.below hB VW.out.lt).cell 0
      clear hF hB hK
      go_simp
      exact hC _ _ (bel_refl _) fun _ _ => rfl
    · intro a0 w9 K9 hF hB hK hC
      have b1 := hF.base (k := 1) (v := .int .i64 sz) (by kernel_rfl) rfl
      clear hF hB hK
      go_simp
      exact hC _ _ (bel_refl _) fun _ _ => rfl
    · intro a0 w9 K9 hF hB hK hC
      obtain ⟨v53, e53, z53⟩ := dep hK 0 (g := .data) (j := 2) (k := 53) rfl rfl rfl
      have z53 : v53 = .int .i64 sz := z53
      subst z53
      have HB9 := Lib.hid hB
      clear hF hB hK
      go_simp
      refine (refHigh_is HF.out _ HHI.out.2).mono ?_
      rintro e w7 ⟨rfl, hbl⟩
      exact hC _ _ hbl fun _ _ => rfl
    · intro a0 w9 K9 hF hB hK hC
      have b1 := hF.base (k := 1) (v := .int .i64 sz) (by kernel_rfl) rfl
      clear hF hB hK
      go_simp
      exact hC _ _ (bel_refl _) fun _ _ => rfl
    · intro a0 w9 K9 hF hB hK hC
      obtain ⟨v55, e55, z55⟩ := dep hK 0 (g := .data) (j := 4) (k := 55) rfl rfl rfl
      have z55 : v55 = .int .i64 sz := z55
      subst z55
      have HB9 := Lib.hid hB
      clear hF hB hK
      go_simp
      refine (refMant_any HF.out _).mono ?_
      rintro e w7 ⟨rfl, hbl⟩
      exact hC _ _ hbl fun _ _ => rfl
    · intro a0 w9 K9 hF hB hK hC
      obtain ⟨v56, e56, z56⟩ := dep hK 0 (g := .data) (j := 5) (k := 56) rfl rfl rfl
      have z56 : v56 = .int .i64 (p : Int) := z56
      subst z56
      have HB9 := Lib.hid hB
      clear hF hB hK
      go_simp
      exact hC _ _ (bel_refl _) fun _ _ => rfl
    · intro a0 w9 K9 hF hB hK hC
      obtain ⟨v54, e54, z54⟩ := dep hK 0 (g := .data) (j := 3) (k := 54) rfl rfl rfl
      have z54 : v54 = .int .u64 (K : Int) := z54
      subst z54
      obtain ⟨v57, e57, z57⟩ := dep hK 1 (g := .data) (j := 6) (k := 57) rfl rfl rfl
      have z57 : v57 = .int .i64 ((p - 1 : Nat) : Int) := z57
      subst z57
      have HB9 := Lib.hid hB
      clear hF hB hK
      go_simp
      exact hC _ _ (bel_refl _) fun _ _ => rfl
    · intro a0 w9 K9 hF hB hK hC
      obtain ⟨v52, e52, z52⟩ := dep hK 0 (g := .data) (j := 1) (k := 52) rfl rfl rfl
      have z52 : v52 = .int .u64 (cc : Int) := z52
      subst z52
      obtain ⟨v58, e58, z58⟩ := dep hK 1 (g := .data) (j := 7) (k := 58) rfl rfl rfl
      have z58 : v58 = .int .u64 (HI : Int) := z58
      subst z58
      have HB9 := Lib.hid hB
      clear hF hB hK
      go_simp
      exact hC _ _ (bel_refl _) fun _ _ => rfl
    case fin =>
      intro a0 w9 hF hB hK
      have b1 := hF.base (k := 1) (v := .int .i64 sz) (by kernel_rfl) rfl
      have b2 := hF.base (k := 2) (v := .pointer (some ⟨w.heap.size, 0, none⟩)) (by kernel_rfl) rfl
      have b4 := hF.base (k := 4) (v := .bool false) (by kernel_rfl) rfl
      have b5 := hF.base (k := 5) (v := .int .u64 (cc : Int)) (by kernel_rfl) rfl
      have b6 := hF.base (k := 6) (v := .bool ex) (by kernel_rfl) rfl
      have b7 := hF.base (k := 7) (v := .int .i64 0) (by kernel_rfl) rfl
      have b8 := hF.base (k := 8) (v := .pointer (some ⟨gd, 0, none⟩)) (by kernel_rfl) rfl
      have hsz := hF.size
      have hdf := hF.defers
      clear hF
      obtain ⟨v59, e59, z59⟩ := known hK 8 (k := 59) (by decide) rfl
      have z59 : v59 = .bool false := z59
      subst z59
      clear hK
      obtain ⟨⟨l0⟩, df⟩ := a0
      have hs0 : l0.length = 103 := hsz
      clear hsz
      replace hdf : df = _ := hdf
      subst hdf
      obtain ⟨u, rfl⟩ := lits_103 hs0
      clear hs0
      have q1 : u 1 = _ := Option.some.inj b1
      clear b1
      have q2 : u 2 = _ := Option.some.inj b2
      clear b2
      have q4 : u 4 = _ := Option.some.inj b4
      clear b4
      have q5 : u 5 = _ := Option.some.inj b5
      clear b5
      have q6 : u 6 = _ := Option.some.inj b6
      clear b6
      have q7 : u 7 = _ := Option.some.inj b7
      clear b7
      have q8 : u 8 = _ := Option.some.inj b8
      clear b8
      have q59 : u 59 = _ := Option.some.inj e59
      clear e59
      rw [q1, q2, q4, q5, q6, q7, q8, q59]
      clear q1 q2 q4 q5 q6 q7 q8 q59
      have hbl := hB; clear hB
      replace CX := Lib.hid (CX.out.below hbl CX.out.lt)
      replace VW := Lib.hid (VW.out.below hbl VW.out.lt)
      replace HW := Lib.hid (bel_trans HW.out hbl); clear hbl
      clear CX0 CX1 CX2
      have CX0 : w9.cell? ⟨w.heap.size, 0, none⟩ = some (.bool true) := CX.out.cell 0
      have CX1 : w9.cell? ⟨w.heap.size, 1, none⟩ = some (.slice A (limbs n).length c) := CX.out.cell 1
      have CX2 : w9.cell? ⟨w.heap.size, 2, none⟩ = some (.slice B (limbs d0).length d) := CX.out.cell 2
      refine wpList_nil ?_
      clear CX0 CX1 CX2
      have CX0 : w9.cell? ⟨w.heap.size, 0, none⟩ = some (.bool true) := CX.out.cell 0
      have CX1 : w9.cell? ⟨w.heap.size, 1, none⟩ = some (.slice A (limbs n).length c) := CX.out.cell 1
      have CX2 : w9.cell? ⟨w.heap.size, 2, none⟩ = some (.slice B (limbs d0).length d) := CX.out.cell 2
      have VW0 : w9.cell? ⟨gd, 0, none⟩ = some (.int .u64 (cc : Int)) := VW.out.cell 0
      have VW1 : w9.cell? ⟨gd, 1, none⟩ = some (.bool ex) := VW.out.cell 1
      go_wp2_with fail
      refine (alive3 _).mono ?_
      rintro e w4 ⟨rfl, hbl⟩
      replace CX := Lib.hid (CX.out.below hbl CX.out.lt)
      replace VW := Lib.hid (VW.out.below hbl VW.out.lt)
      replace HW := Lib.hid (bel_trans HW.out hbl); clear hbl
      clear CX0 CX1 CX2 VW0 VW1
      have CX0 : w4.cell? ⟨w.heap.size, 0, none⟩ = some (.bool true) := CX.out.cell 0
      have CX1 : w4.cell? ⟨w.heap.size, 1, none⟩ = some (.slice A (limbs n).length c) := CX.out.cell 1
      have CX2 : w4.cell? ⟨w.heap.size, 2, none⟩ = some (.slice B (limbs d0).length d) := CX.out.cell 2
      have VW0 : w4.cell? ⟨gd, 0, none⟩ = some (.int .u64 (cc : Int)) := VW.out.cell 0
      have VW1 : w4.cell? ⟨gd, 1, none⟩ = some (.bool ex) := VW.out.cell 1
      go_wp2
      go_ret
      exact ⟨rfl, HW.out⟩

set_option maxRecDepth 100000 in
set_option maxHeartbeats 1000000 in
theorem near_neg_f (A B : Option Addr) (c d : Nat) (x0 y0 : List Nat) (n d0 : Nat) (sz : Int) (p q t cc : Nat) (ex : Bool) (w : World) (h1 : RdL w A x0) (h2 : RdL w B y0) (k1 : x0.length ≤ c) (k2 : y0.length ≤ d) (m1 : Lim x0) (m2 : Lim y0) (hf : Fm sz p q t) (z1 : (sz != 32) = false) (hn : n < Top) (hd : d0 < Top) (hq : QR ⟨true, n, d0⟩) (hC : Code p q n d0 cc ex) (ho : ¬ (t + q + 2) * 2 ^ (p - 1) ≤ cc) (hz : cc ≠ 0) (e1 : few x0 = (limbs n)) (e2 : few y0 = (limbs d0)) :
    Calls Try.prog 3 #[.agg #[.bool true, .slice A x0.length c, .slice B y0.length d], .int .i64 sz] w (RetT w) := by
  obtain ⟨op1, op2, oq0, oq, ot, os1, os2⟩ := hf.ok
  have HF := Lib.hid hf; clear hf
  have HQ := Lib.hid (And.intro hn (And.intro hd hq)); clear hn hd hq
  have HR := Lib.hid ((rightB_q (s := true) HQ.out.1 HQ.out.2.1).2 HQ.out.2.2)
  have HC := Lib.hid hC; clear hC
  obtain ⟨HI, hHI⟩ : ∃ HI, HI = (t + q + 2) * 2 ^ (p - 1) := ⟨_, rfl⟩
  obtain ⟨K, hK⟩ : ∃ K, K = t + q + 2 := ⟨_, rfl⟩
  obtain ⟨H, hH⟩ : ∃ H, H = 2 ^ (p - 1) := ⟨_, rfl⟩
  have hH1 : H ≤ 4503599627370496 := by rw [hH]; exact Nat.pow_le_pow_right (n := 2) (j := 52) (by decide) (by omega)
  have hHI2 : HI ≤ 2047 * 4503599627370496 := by rw [hHI, ← hH]; exact Nat.mul_le_mul (by omega) hH1
  have s0 : IntKind.i64.wrap ((p : Int) - 1) = ((p - 1 : Nat) : Int) := by rw [IntKind.wrap_i64]; omega
  have hmin : min (p - 1) 64 = p - 1 := by omega
  have s3 : (2 : Int) ^ (p - 1) = (H : Int) := by rw [hH, Int.natCast_pow]; rfl
  have s1 : (K : Int) * (H : Int) = (HI : Int) := by rw [hHI, ← hH, ← hK, Int.natCast_mul]
  have s2 : IntKind.u64.wrap (HI : Int) = (HI : Int) := by rw [IntKind.wrap_u64]; omega
  have hne : cc ≠ HI := by rw [hHI]; intro h; exact ho (Nat.le_of_eq h.symm)
  have s4 : ((cc : Int) == (HI : Int)) = false := by simp only [beq_eq_false_iff_ne, ne_eq]; omega
  clear hne
  obtain ⟨z, hz3⟩ : ∃ z : Nat, sz = (z : Int) + 1 := ⟨sz.toNat - 1, by omega⟩
  have hlt : cc < 2 ^ z := fit_code HF.out hz3 ho
  obtain ⟨G, hG⟩ : ∃ G, G = 2 ^ (sz.toNat - 1) := ⟨_, rfl⟩
  have g1 := or_high hlt (by omega) (show G = 2 ^ z by rw [hG]; congr 1; omega)
  obtain ⟨U, hU⟩ : ∃ U, sgn true sz cc = U := ⟨_, rfl⟩
  have hUc : U = cc + G := by rw [← hU, hG]; unfold sgn; rw [if_pos ⟨rfl, hz⟩]
  rw [← hUc] at g1
  have HU := Lib.hid (And.intro hU (And.intro hUc hG)); clear hU hUc hG hlt hz3
  have c1 : ((cc : Int) != 0) = true := by simp [hz]
  clear hz
  have HO := Lib.hid ho; clear ho
  have HHI := Lib.hid (And.intro hHI hK); clear hHI hK hH hH1 hHI2
  have R1 := Lib.hid (show RdL w A (limbs n) by rw [← e1]; exact h1.take 18); clear h1
  have R2 := Lib.hid (show RdL w B (limbs d0) by rw [← e2]; exact h2.take 18); clear h2
  have L18 := Lib.hid (show (limbs n).length ≤ 18 ∧ (limbs d0).length ≤ 18 by rw [← e1, ← e2]; exact ⟨few_le _, few_le _⟩)
  have KC := Lib.hid (show (limbs n).length ≤ c ∧ (limbs d0).length ≤ d by rw [← e1, ← e2]; exact ⟨Nat.le_trans (few_short _) k1, Nat.le_trans (few_short _) k2⟩)
  have M := Lib.hid (show Lim (limbs n) ∧ Lim (limbs d0) by rw [← e1, ← e2]; exact ⟨few_lim m1, few_lim m2⟩); clear m1 m2
  have F := Lib.hid (And.intro k1 (And.intro k2 (And.intro e1 e2))); clear k1 k2 e1 e2
  obtain ⟨wa, hwa⟩ : ∃ wa, wa = w.alloc (.cells #[.bool true, .slice A x0.length c, .slice B y0.length d] 25) := ⟨_, rfl⟩
  have hbl : Below w.heap.size w wa := by rw [hwa]; exact bel_alloc (bel_refl _) _
  have CX : Blk wa (w.heap.size) 25 #[.bool true, .slice A x0.length c, .slice B y0.length d] := by
    have hz := Blk.new (w) 25 #[.bool true, .slice A x0.length c, .slice B y0.length d]
    rw [hwa]
    exact hz
  replace R1 := Lib.hid (R1.out.below hbl)
  replace R2 := Lib.hid (R2.out.below hbl)
  have HW := Lib.hid hbl; clear hbl
  replace CX := Lib.hid CX
  go_enter Try.func3, Try.ntmps3
  go_wp2_with fail
  rw [← hwa]
  clear hwa
  have CX0 : wa.cell? ⟨w.heap.size, 0, none⟩ = some (.bool true) := CX.out.cell 0
  have CX1 : wa.cell? ⟨w.heap.size, 1, none⟩ = some (.slice A x0.length c) := CX.out.cell 1
  have CX2 : wa.cell? ⟨w.heap.size, 2, none⟩ = some (.slice B y0.length d) := CX.out.cell 2
  refine (few3_is true A B c d x0 y0 (limbs n) (limbs d0) _ F.out.1 F.out.2.1 F.out.2.2.1 F.out.2.2.2).mono ?_
  rintro e w1 ⟨rfl, hbl⟩
  replace R1 := Lib.hid (R1.out.below hbl)
  replace R2 := Lib.hid (R2.out.below hbl)
  replace CX := Lib.hid (CX.out.below hbl CX.out.lt)
  replace HW := Lib.hid (bel_trans HW.out hbl); clear hbl
  clear CX0 CX1 CX2
  have CX0 : w1.cell? ⟨w.heap.size, 0, none⟩ = some (.bool true) := CX.out.cell 0
  have CX1 : w1.cell? ⟨w.heap.size, 1, none⟩ = some (.slice A x0.length c) := CX.out.cell 1
  have CX2 : w1.cell? ⟨w.heap.size, 2, none⟩ = some (.slice B y0.length d) := CX.out.cell 2
  have pd0 := CX.out.cell 0
  have pf0 := CX.out.frozen 0
  have pd1 := CX.out.cell 1
  have pf1 := CX.out.frozen 1
  have pd2 := CX.out.cell 2
  have pf2 := CX.out.frozen 2
  go_upto_region 2 with fail
  clear pd0 pf0 pd1 pf1 pd2 pf2
  obtain ⟨wf, hwf⟩ : ∃ wf, wf = (((w1.setCell ⟨w.heap.size, 0, none⟩ (.bool true)).setCell ⟨w.heap.size, 1, none⟩ (.slice A (limbs n).length c)).setCell ⟨w.heap.size, 2, none⟩ (.slice B (limbs d0).length d)) := ⟨_, rfl⟩
  rw [← hwf]
  replace R1 := Lib.hid (show RdL wf _ _ by rw [hwf]; exact RdL.set3 (CX.out) (R1.out) _ _ _)
  replace R2 := Lib.hid (show RdL wf _ _ by rw [hwf]; exact RdL.set3 (CX.out) (R2.out) _ _ _)
  have CX_ := Lib.hid (show Blk wf (w.heap.size) 25 #[.bool true, .slice A (limbs n).length c, .slice B (limbs d0).length d] by rw [hwf]; exact (((CX.out).put 0 (.bool true)).put 1 (.slice A (limbs n).length c)).put 2 (.slice B (limbs d0).length d))
  replace CX := CX_; clear CX_
  replace HW := Lib.hid (show Below w.heap.size w wf by rw [hwf]; exact bel_set (p := ⟨w.heap.size, 2, none⟩) (bel_set (p := ⟨w.heap.size, 1, none⟩) (bel_set (p := ⟨w.heap.size, 0, none⟩) (HW.out) (by show w.heap.size ≤ w.heap.size; omega) _) (by show w.heap.size ≤ w.heap.size; omega) _) (by show w.heap.size ≤ w.heap.size; omega) _)
  clear hwf
  clear CX0 CX1 CX2
  have CX0 : wf.cell? ⟨w.heap.size, 0, none⟩ = some (.bool true) := CX.out.cell 0
  have CX1 : wf.cell? ⟨w.heap.size, 1, none⟩ = some (.slice A (limbs n).length c) := CX.out.cell 1
  have CX2 : wf.cell? ⟨w.heap.size, 2, none⟩ = some (.slice B (limbs d0).length d) := CX.out.cell 2
  go_wp2_with fail
  refine (rbits_fit true A B c d n d0 sz p q t _ R1.out R2.out KC.out.1 KC.out.2 HQ.out.1 HQ.out.2.1 HQ.out.2.2 HF.out HC.out HO.out HU.out.1).mono ?_
  rintro e w2 ⟨rfl, hbl⟩
  replace R1 := Lib.hid (R1.out.below hbl)
  replace R2 := Lib.hid (R2.out.below hbl)
  replace CX := Lib.hid (CX.out.below hbl CX.out.lt)
  replace HW := Lib.hid (bel_trans HW.out hbl); clear hbl
  clear CX0 CX1 CX2
  have CX0 : w2.cell? ⟨w.heap.size, 0, none⟩ = some (.bool true) := CX.out.cell 0
  have CX1 : w2.cell? ⟨w.heap.size, 1, none⟩ = some (.slice A (limbs n).length c) := CX.out.cell 1
  have CX2 : w2.cell? ⟨w.heap.size, 2, none⟩ = some (.slice B (limbs d0).length d) := CX.out.cell 2
  go_wp2_with fail
  refine (refRatRight_is true A B c d (limbs n) (limbs d0) _ R1.out R2.out M.out.1 M.out.2 L18.out.1 L18.out.2 HR.out).mono ?_
  rintro e w3 ⟨rfl, hbl⟩
  replace R1 := Lib.hid (R1.out.below hbl)
  replace R2 := Lib.hid (R2.out.below hbl)
  replace CX := Lib.hid (CX.out.below hbl CX.out.lt)
  replace HW := Lib.hid (bel_trans HW.out hbl); clear hbl
  clear CX0 CX1 CX2
  have CX0 : w3.cell? ⟨w.heap.size, 0, none⟩ = some (.bool true) := CX.out.cell 0
  have CX1 : w3.cell? ⟨w.heap.size, 1, none⟩ = some (.slice A (limbs n).length c) := CX.out.cell 1
  have CX2 : w3.cell? ⟨w.heap.size, 2, none⟩ = some (.slice B (limbs d0).length d) := CX.out.cell 2
  go_upto_region 5 with fail
  have hsz0 : w.heap.size < w3.heap.size := CX.out.lt
  refine wp_region_typed 10 (TOf [VIs (.pointer (some ⟨w.heap.size, 1, none⟩)),
      VIs (.slice A (limbs n).length c),
      VIs (.string (dec n)),
      VIs (.pointer (some ⟨w.heap.size, 2, none⟩)),
      VIs (.slice B (limbs d0).length d),
      VIs (.string (dec d0)),
      VIs (.agg #[.string (dec n), .string (dec d0)]),
      VIs (.int .i64 sz),
      VIs (.agg #[.int .u64 (cc : Int), .bool ex]),
      VNewF w3.heap.size 34 #[.int .u64 0, .bool false]]) (by kernel_rfl) (by kernel_rfl) (by kernel_rfl) (LiftAll.at_ (.cons (VIs.lift _) (.cons (VIs.lift _) (.cons (VIs.lift _) (.cons (VIs.lift _) (.cons (VIs.lift _) (.cons (VIs.lift _) (.cons (VIs.lift _) (.cons (VIs.lift _) (.cons (VIs.lift _) (.cons (VNewF.lift _ _ _) .nil))))))))))) (steps_all (steps_cons ?_ (steps_cons ?_ (steps_cons ?_ (steps_cons ?_ (steps_cons ?_ (steps_cons ?_ (steps_cons ?_ (steps_cons ?_ (steps_cons ?_ (steps_cons ?_ steps_zero))))))))))) ?fin
  · intro a0 w9 K9 hF hB hK hC
    have b2 := hF.base (k := 2) (v := .pointer (some ⟨w.heap.size, 0, none⟩)) (by kernel_rfl) rfl
    clear hF hB hK
    go_simp
    exact hC _ _ (bel_refl _) fun _ _ => rfl
  · intro a0 w9 K9 hF hB hK hC
    obtain ⟨v42, e42, z42⟩ := dep hK 0 (g := .data) (j := 0) (k := 42) rfl rfl rfl
    have z42 : v42 = .pointer (some ⟨w.heap.size, 1, none⟩) := z42
    subst z42
    have x9 : w9.cell? ⟨w.heap.size, 1, none⟩ = some (.slice A (limbs n).length c) := (CX.out.below hB CX.out.lt).cell 1
    clear hF hB hK
    go_simp
    exact hC _ _ (bel_refl _) fun _ _ => rfl
  · intro a0 w9 K9 hF hB hK hC
    obtain ⟨v43, e43, z43⟩ := dep hK 0 (g := .data) (j := 1) (k := 43) rfl rfl rfl
    have z43 : v43 = .slice A (limbs n).length c := z43
    subst z43
    have HB9 := Lib.hid hB
    clear hF hB hK
    go_simp
    refine (text_num A c n _ (R1.out.below HB9.out) HQ.out.1).mono ?_
    rintro e w7 ⟨rfl, hbl⟩
    exact hC _ _ hbl fun _ _ => rfl
  · intro a0 w9 K9 hF hB hK hC
    have b2 := hF.base (k := 2) (v := .pointer (some ⟨w.heap.size, 0, none⟩)) (by kernel_rfl) rfl
    clear hF hB hK
    go_simp
    exact hC _ _ (bel_refl _) fun _ _ => rfl
  · intro a0 w9 K9 hF hB hK hC
    obtain ⟨v45, e45, z45⟩ := dep hK 0 (g := .data) (j := 3) (k := 45) rfl rfl rfl
    have z45 : v45 = .pointer (some ⟨w.heap.size, 2, none⟩) := z45
    subst z45
    have x9 : w9.cell? ⟨w.heap.size, 2, none⟩ = some (.slice B (limbs d0).length d) := (CX.out.below hB CX.out.lt).cell 2
    clear hF hB hK
    go_simp
    exact hC _ _ (bel_refl _) fun _ _ => rfl
  · intro a0 w9 K9 hF hB hK hC
    obtain ⟨v46, e46, z46⟩ := dep hK 0 (g := .data) (j := 4) (k := 46) rfl rfl rfl
    have z46 : v46 = .slice B (limbs d0).length d := z46
    subst z46
    have HB9 := Lib.hid hB
    clear hF hB hK
    go_simp
    refine (text_num B d d0 _ (R2.out.below HB9.out) HQ.out.2.1).mono ?_
    rintro e w7 ⟨rfl, hbl⟩
    exact hC _ _ hbl fun _ _ => rfl
  · intro a0 w9 K9 hF hB hK hC
    obtain ⟨v44, e44, z44⟩ := dep hK 0 (g := .data) (j := 2) (k := 44) rfl rfl rfl
    have z44 : v44 = .string (dec n) := z44
    subst z44
    obtain ⟨v47, e47, z47⟩ := dep hK 1 (g := .data) (j := 5) (k := 47) rfl rfl rfl
    have z47 : v47 = .string (dec d0) := z47
    subst z47
    have HB9 := Lib.hid hB
    clear hF hB hK
    go_simp
    exact hC _ _ (bel_refl _) fun _ _ => rfl
  · intro a0 w9 K9 hF hB hK hC
    have b1 := hF.base (k := 1) (v := .int .i64 sz) (by kernel_rfl) rfl
    clear hF hB hK
    go_simp
    exact hC _ _ (bel_refl _) fun _ _ => rfl
  · intro a0 w9 K9 hF hB hK hC
    obtain ⟨v48, e48, z48⟩ := dep hK 0 (g := .data) (j := 6) (k := 48) rfl rfl rfl
    have z48 : v48 = .agg #[.string (dec n), .string (dec d0)] := z48
    subst z48
    obtain ⟨v49, e49, z49⟩ := dep hK 1 (g := .data) (j := 7) (k := 49) rfl rfl rfl
    have z49 : v49 = .int .i64 sz := z49
    subst z49
    have HB9 := Lib.hid hB
    clear hF hB hK
    go_simp
    refine (refNear_fit HF.out n d0 _ HQ.out.1 HQ.out.2.1 HQ.out.2.2.den HC.out HHI.out.1 (by rw [HHI.out.1]; exact HO.out)).mono ?_
    rintro e w7 ⟨rfl, hbl⟩
    exact hC _ _ hbl fun _ _ => rfl
  · intro a0 w9 K9 hF hB hK hC
    have HB9 := Lib.hid hB
    clear hF hB hK
    go_simp
    exact hC _ _ (bel_alloc (bel_refl _) _) fun _ _ => ⟨_, rfl, HB9.out.size, Blk.new _ _ _⟩
  case fin =>
    intro a0 w9 hF hB hK
    have b1 := hF.base (k := 1) (v := .int .i64 sz) (by kernel_rfl) rfl
    have b2 := hF.base (k := 2) (v := .pointer (some ⟨w.heap.size, 0, none⟩)) (by kernel_rfl) rfl
    have b4 := hF.base (k := 4) (v := .bool false) (by kernel_rfl) rfl
    have b5 := hF.base (k := 5) (v := .int .u64 (U : Int)) (by kernel_rfl) rfl
    have b6 := hF.base (k := 6) (v := .bool ex) (by kernel_rfl) rfl
    have b7 := hF.base (k := 7) (v := .int .i64 0) (by kernel_rfl) rfl
    have hsz := hF.size
    have hdf := hF.defers
    clear hF
    obtain ⟨v8, e8, z8⟩ := known hK 9 (k := 8) (by decide) rfl
    have z8 : ∃ g, v8 = .pointer (some ⟨g, 0, none⟩) ∧ w3.heap.size ≤ g ∧ Blk w9 g 34 #[.int .u64 0, .bool false] := z8
    obtain ⟨gd, rfl, hgd, Zgd⟩ := z8
    obtain ⟨v50, e50, z50⟩ := known hK 8 (k := 50) (by decide) rfl
    have z50 : v50 = .agg #[.int .u64 (cc : Int), .bool ex] := z50
    subst z50
    clear hK
    obtain ⟨⟨l0⟩, df⟩ := a0
    have hs0 : l0.length = 103 := hsz
    clear hsz
    replace hdf : df = _ := hdf
    subst hdf
    obtain ⟨u, rfl⟩ := lits_103 hs0
    clear hs0
    have q1 : u 1 = _ := Option.some.inj b1
    clear b1
    have q2 : u 2 = _ := Option.some.inj b2
    clear b2
    have q4 : u 4 = _ := Option.some.inj b4
    clear b4
    have q5 : u 5 = _ := Option.some.inj b5
    clear b5
    have q6 : u 6 = _ := Option.some.inj b6
    clear b6
    have q7 : u 7 = _ := Option.some.inj b7
    clear b7
    have q8 : u 8 = _ := Option.some.inj e8
    clear e8
    have q50 : u 50 = _ := Option.some.inj e50
    clear e50
    rw [q1, q2, q4, q5, q6, q7, q8, q50]
    clear q1 q2 q4 q5 q6 q7 q8 q50
    have hbl := hB; clear hB
    replace R1 := Lib.hid (R1.out.below hbl)
    replace R2 := Lib.hid (R2.out.below hbl)
    replace CX := Lib.hid (CX.out.below hbl CX.out.lt)
    replace HW := Lib.hid (bel_trans HW.out hbl); clear hbl
    clear CX0 CX1 CX2
    have CX0 : w9.cell? ⟨w.heap.size, 0, none⟩ = some (.bool true) := CX.out.cell 0
    have CX1 : w9.cell? ⟨w.heap.size, 1, none⟩ = some (.slice A (limbs n).length c) := CX.out.cell 1
    have CX2 : w9.cell? ⟨w.heap.size, 2, none⟩ = some (.slice B (limbs d0).length d) := CX.out.cell 2
    simp only [List.drop_succ_cons, List.drop_zero]
    have gl : w.heap.size < gd := by omega
    replace Zgd := Lib.hid Zgd
    have VW := Zgd; clear Zgd
    have xd0 : w9.cell? ⟨gd, 0, none⟩ = some (.int .u64 0) := VW.out.cell 0
    have xf0 : w9.frozen? ⟨gd, 0, none⟩ = false := VW.out.frozen 0
    have xd1 : w9.cell? ⟨gd, 1, none⟩ = some (.bool false) := VW.out.cell 1
    have xf1 : w9.frozen? ⟨gd, 1, none⟩ = false := VW.out.frozen 1
    go_upto_region 6 with fail
    clear xd0 xd1 xf0 xf1
    obtain ⟨wv, hwv⟩ : ∃ wv, wv = ((w9.setCell ⟨gd, 0, none⟩ (.int .u64 (cc : Int))).setCell ⟨gd, 1, none⟩ (.bool ex)) := ⟨_, rfl⟩
    rw [← hwv]
    replace CX := Lib.hid (show Blk wv (w.heap.size) 25 #[.bool true, .slice A (limbs n).length c, .slice B (limbs d0).length d] by rw [hwv]; exact ((CX.out).far (p := ⟨gd, 0, none⟩) (by simp; omega) _).far (p := ⟨gd, 1, none⟩) (by simp; omega) _)
    replace VW := Lib.hid (show Blk wv (gd) 34 #[.int .u64 (cc : Int), .bool ex] by rw [hwv]; exact ((VW.out).put 0 (.int .u64 (cc : Int))).put 1 (.bool ex))
    replace HW := Lib.hid (show Below w.heap.size w wv by rw [hwv]; exact bel_set (p := ⟨gd, 1, none⟩) (bel_set (p := ⟨gd, 0, none⟩) (HW.out) (by show w.heap.size ≤ gd; omega) _) (by show w.heap.size ≤ gd; omega) _)
    clear hwv
    clear CX0 CX1 CX2
    have CX0 : wv.cell? ⟨w.heap.size, 0, none⟩ = some (.bool true) := CX.out.cell 0
    have CX1 : wv.cell? ⟨w.heap.size, 1, none⟩ = some (.slice A (limbs n).length c) := CX.out.cell 1
    have CX2 : wv.cell? ⟨w.heap.size, 2, none⟩ = some (.slice B (limbs d0).length d) := CX.out.cell 2
    refine wp_region_typed 9 (TOf [VIs (.pointer (some ⟨gd, 0, none⟩)),
        VIs (.int .u64 (cc : Int)),
        VIs (.int .i64 sz),
        VIs (.int .u64 (K : Int)),
        VIs (.int .i64 sz),
        VIs (.int .i64 (p : Int)),
        VIs (.int .i64 ((p - 1 : Nat) : Int)),
        VIs (.int .u64 (HI : Int)),
        VIs (.bool false)]) (by kernel_rfl) (by kernel_rfl) (by kernel_rfl) (LiftAll.at_ (.cons (VIs.lift _) (.cons (VIs.lift _) (.cons (VIs.lift _) (.cons (VIs.lift _) (.cons (VIs.lift _) (.cons (VIs.lift _) (.cons (VIs.lift _) (.cons (VIs.lift _) (.cons (VIs.lift _) .nil)))))))))) (steps_all (steps_cons ?_ (steps_cons ?_ (steps_cons ?_ (steps_cons ?_ (steps_cons ?_ (steps_cons ?_ (steps_cons ?_ (steps_cons ?_ (steps_cons ?_ steps_zero)))))))))) ?fin
    · intro a0 w9 K9 hF hB hK hC
      have b8 := hF.base (k := 8) (v := .pointer (some ⟨gd, 0, none⟩)) (by kernel_rfl) rfl
      clear hF hB hK
      go_simp
      exact hC _ _ (bel_refl _) fun _ _ => rfl
    · intro a0 w9 K9 hF hB hK hC
      obtain ⟨v51, e51, z51⟩ := dep hK 0 (g := .data) (j := 0) (k := 51) rfl rfl rfl
      have z51 : v51 = .pointer (some ⟨gd, 0, none⟩) := z51
      subst z51
      have x9 : w9.cell? ⟨gd, 0, none⟩ = some (.int .u64 (cc : Int)) := (VW.out.below hB VW.out.lt).cell 0
      clear hF hB hK
      go_simp
      exact hC _ _ (bel_refl _) fun _ _ => rfl
    · intro a0 w9 K9 hF hB hK hC
      have b1 := hF.base (k := 1) (v := .int .i64 sz) (by kernel_rfl) rfl
      clear hF hB hK
      go_simp
      exact hC _ _ (bel_refl _) fun _ _ => rfl
    · intro a0 w9 K9 hF hB hK hC
      obtain ⟨v53, e53, z53⟩ := dep hK 0 (g := .data) (j := 2) (k := 53) rfl rfl rfl
      have z53 : v53 = .int .i64 sz := z53
      subst z53
      have HB9 := Lib.hid hB
      clear hF hB hK
      go_simp
      refine (refHigh_is HF.out _ HHI.out.2).mono ?_
      rintro e w7 ⟨rfl, hbl⟩
      exact hC _ _ hbl fun _ _ => rfl
    · intro a0 w9 K9 hF hB hK hC
      have b1 := hF.base (k := 1) (v := .int .i64 sz) (by kernel_rfl) rfl
      clear hF hB hK
      go_simp
      exact hC _ _ (bel_refl _) fun _ _ => rfl
    · intro a0 w9 K9 hF hB hK hC
      obtain ⟨v55, e55, z55⟩ := dep hK 0 (g := .data) (j := 4) (k := 55) rfl rfl rfl
      have z55 : v55 = .int .i64 sz := z55
      subst z55
      have HB9 := Lib.hid hB
      clear hF hB hK
      go_simp
      refine (refMant_any HF.out _).mono ?_
      rintro e w7 ⟨rfl, hbl⟩
      exact hC _ _ hbl fun _ _ => rfl
    · intro a0 w9 K9 hF hB hK hC
      obtain ⟨v56, e56, z56⟩ := dep hK 0 (g := .data) (j := 5) (k := 56) rfl rfl rfl
      have z56 : v56 = .int .i64 (p : Int) := z56
      subst z56
      have HB9 := Lib.hid hB
      clear hF hB hK
      go_simp
      exact hC _ _ (bel_refl _) fun _ _ => rfl
    · intro a0 w9 K9 hF hB hK hC
      obtain ⟨v54, e54, z54⟩ := dep hK 0 (g := .data) (j := 3) (k := 54) rfl rfl rfl
      have z54 : v54 = .int .u64 (K : Int) := z54
      subst z54
      obtain ⟨v57, e57, z57⟩ := dep hK 1 (g := .data) (j := 6) (k := 57) rfl rfl rfl
      have z57 : v57 = .int .i64 ((p - 1 : Nat) : Int) := z57
      subst z57
      have HB9 := Lib.hid hB
      clear hF hB hK
      go_simp
      exact hC _ _ (bel_refl _) fun _ _ => rfl
    · intro a0 w9 K9 hF hB hK hC
      obtain ⟨v52, e52, z52⟩ := dep hK 0 (g := .data) (j := 1) (k := 52) rfl rfl rfl
      have z52 : v52 = .int .u64 (cc : Int) := z52
      subst z52
      obtain ⟨v58, e58, z58⟩ := dep hK 1 (g := .data) (j := 7) (k := 58) rfl rfl rfl
      have z58 : v58 = .int .u64 (HI : Int) := z58
      subst z58
      have HB9 := Lib.hid hB
      clear hF hB hK
      go_simp
      exact hC _ _ (bel_refl _) fun _ _ => rfl
    case fin =>
      intro a0 w9 hF hB hK
      have b1 := hF.base (k := 1) (v := .int .i64 sz) (by kernel_rfl) rfl
      have b2 := hF.base (k := 2) (v := .pointer (some ⟨w.heap.size, 0, none⟩)) (by kernel_rfl) rfl
      have b4 := hF.base (k := 4) (v := .bool false) (by kernel_rfl) rfl
      have b5 := hF.base (k := 5) (v := .int .u64 (U : Int)) (by kernel_rfl) rfl
      have b6 := hF.base (k := 6) (v := .bool ex) (by kernel_rfl) rfl
      have b7 := hF.base (k := 7) (v := .int .i64 0) (by kernel_rfl) rfl
      have b8 := hF.base (k := 8) (v := .pointer (some ⟨gd, 0, none⟩)) (by kernel_rfl) rfl
      have hsz := hF.size
      have hdf := hF.defers
      clear hF
      obtain ⟨v59, e59, z59⟩ := known hK 8 (k := 59) (by decide) rfl
      have z59 : v59 = .bool false := z59
      subst z59
      clear hK
      obtain ⟨⟨l0⟩, df⟩ := a0
      have hs0 : l0.length = 103 := hsz
      clear hsz
      replace hdf : df = _ := hdf
      subst hdf
      obtain ⟨u, rfl⟩ := lits_103 hs0
      clear hs0
      have q1 : u 1 = _ := Option.some.inj b1
      clear b1
      have q2 : u 2 = _ := Option.some.inj b2
      clear b2
      have q4 : u 4 = _ := Option.some.inj b4
      clear b4
      have q5 : u 5 = _ := Option.some.inj b5
      clear b5
      have q6 : u 6 = _ := Option.some.inj b6
      clear b6
      have q7 : u 7 = _ := Option.some.inj b7
      clear b7
      have q8 : u 8 = _ := Option.some.inj b8
      clear b8
      have q59 : u 59 = _ := Option.some.inj e59
      clear e59
      rw [q1, q2, q4, q5, q6, q7, q8, q59]
      clear q1 q2 q4 q5 q6 q7 q8 q59
      have hbl := hB; clear hB
      replace CX := Lib.hid (CX.out.below hbl CX.out.lt)
      replace VW := Lib.hid (VW.out.below hbl VW.out.lt)
      replace HW := Lib.hid (bel_trans HW.out hbl); clear hbl
      clear CX0 CX1 CX2
      have CX0 : w9.cell? ⟨w.heap.size, 0, none⟩ = some (.bool true) := CX.out.cell 0
      have CX1 : w9.cell? ⟨w.heap.size, 1, none⟩ = some (.slice A (limbs n).length c) := CX.out.cell 1
      have CX2 : w9.cell? ⟨w.heap.size, 2, none⟩ = some (.slice B (limbs d0).length d) := CX.out.cell 2
      refine wpList_nil ?_
      clear CX0 CX1 CX2
      have CX0 : w9.cell? ⟨w.heap.size, 0, none⟩ = some (.bool true) := CX.out.cell 0
      have CX1 : w9.cell? ⟨w.heap.size, 1, none⟩ = some (.slice A (limbs n).length c) := CX.out.cell 1
      have CX2 : w9.cell? ⟨w.heap.size, 2, none⟩ = some (.slice B (limbs d0).length d) := CX.out.cell 2
      have VW0 : w9.cell? ⟨gd, 0, none⟩ = some (.int .u64 (cc : Int)) := VW.out.cell 0
      have VW1 : w9.cell? ⟨gd, 1, none⟩ = some (.bool ex) := VW.out.cell 1
      go_upto_region 9 with fail
      refine wp_region_typed 6 (TOf [VIs (.pointer (some ⟨gd, 0, none⟩)),
          VIs (.int .u64 (cc : Int)),
          VIs (.int .i64 sz),
          VIs (.int .u64 (G : Int)),
          VIs (.int .u64 (U : Int)),
          VIs (.pointer (some ⟨gd, 0, none⟩))]) (by kernel_rfl) (by kernel_rfl) (by kernel_rfl) (LiftAll.at_ (.cons (VIs.lift _) (.cons (VIs.lift _) (.cons (VIs.lift _) (.cons (VIs.lift _) (.cons (VIs.lift _) (.cons (VIs.lift _) .nil))))))) (steps_all (steps_cons ?_ (steps_cons ?_ (steps_cons ?_ (steps_cons ?_ (steps_cons ?_ (steps_cons ?_ steps_zero))))))) ?fin
      · intro a0 w9 K9 hF hB hK hC
        have b8 := hF.base (k := 8) (v := .pointer (some ⟨gd, 0, none⟩)) (by kernel_rfl) rfl
        clear hF hB hK
        go_simp
        exact hC _ _ (bel_refl _) fun _ _ => rfl
      · intro a0 w9 K9 hF hB hK hC
        obtain ⟨v80, e80, z80⟩ := dep hK 0 (g := .data) (j := 0) (k := 80) rfl rfl rfl
        have z80 : v80 = .pointer (some ⟨gd, 0, none⟩) := z80
        subst z80
        have x9 : w9.cell? ⟨gd, 0, none⟩ = some (.int .u64 (cc : Int)) := (VW.out.below hB VW.out.lt).cell 0
        clear hF hB hK
        go_simp
        exact hC _ _ (bel_refl _) fun _ _ => rfl
      · intro a0 w9 K9 hF hB hK hC
        have b1 := hF.base (k := 1) (v := .int .i64 sz) (by kernel_rfl) rfl
        clear hF hB hK
        go_simp
        exact hC _ _ (bel_refl _) fun _ _ => rfl
      · intro a0 w9 K9 hF hB hK hC
        obtain ⟨v82, e82, z82⟩ := dep hK 0 (g := .data) (j := 2) (k := 82) rfl rfl rfl
        have z82 : v82 = .int .i64 sz := z82
        subst z82
        have HB9 := Lib.hid hB
        clear hF hB hK
        go_simp
        refine (high3_any HF.out _ HU.out.2.2).mono ?_
        rintro e w7 ⟨rfl, hbl⟩
        exact hC _ _ hbl fun _ _ => rfl
      · intro a0 w9 K9 hF hB hK hC
        obtain ⟨v81, e81, z81⟩ := dep hK 0 (g := .data) (j := 1) (k := 81) rfl rfl rfl
        have z81 : v81 = .int .u64 (cc : Int) := z81
        subst z81
        obtain ⟨v83, e83, z83⟩ := dep hK 1 (g := .data) (j := 3) (k := 83) rfl rfl rfl
        have z83 : v83 = .int .u64 (G : Int) := z83
        subst z83
        have HB9 := Lib.hid hB
        clear hF hB hK
        go_simp
        exact hC _ _ (bel_refl _) fun _ _ => rfl
      · intro a0 w9 K9 hF hB hK hC
        have b8 := hF.base (k := 8) (v := .pointer (some ⟨gd, 0, none⟩)) (by kernel_rfl) rfl
        clear hF hB hK
        go_simp
        exact hC _ _ (bel_refl _) fun _ _ => rfl
      case fin =>
        intro a0 w9 hF hB hK
        have b1 := hF.base (k := 1) (v := .int .i64 sz) (by kernel_rfl) rfl
        have b2 := hF.base (k := 2) (v := .pointer (some ⟨w.heap.size, 0, none⟩)) (by kernel_rfl) rfl
        have b4 := hF.base (k := 4) (v := .bool false) (by kernel_rfl) rfl
        have b5 := hF.base (k := 5) (v := .int .u64 (U : Int)) (by kernel_rfl) rfl
        have b6 := hF.base (k := 6) (v := .bool ex) (by kernel_rfl) rfl
        have b7 := hF.base (k := 7) (v := .int .i64 0) (by kernel_rfl) rfl
        have b8 := hF.base (k := 8) (v := .pointer (some ⟨gd, 0, none⟩)) (by kernel_rfl) rfl
        have hsz := hF.size
        have hdf := hF.defers
        clear hF
        obtain ⟨v84, e84, z84⟩ := known hK 4 (k := 84) (by decide) rfl
        have z84 : v84 = .int .u64 (U : Int) := z84
        subst z84
        obtain ⟨v85, e85, z85⟩ := known hK 5 (k := 85) (by decide) rfl
        have z85 : v85 = .pointer (some ⟨gd, 0, none⟩) := z85
        subst z85
        clear hK
        obtain ⟨⟨l0⟩, df⟩ := a0
        have hs0 : l0.length = 103 := hsz
        clear hsz
        replace hdf : df = _ := hdf
        subst hdf
        obtain ⟨u, rfl⟩ := lits_103 hs0
        clear hs0
        have q1 : u 1 = _ := Option.some.inj b1
        clear b1
        have q2 : u 2 = _ := Option.some.inj b2
        clear b2
        have q4 : u 4 = _ := Option.some.inj b4
        clear b4
        have q5 : u 5 = _ := Option.some.inj b5
        clear b5
        have q6 : u 6 = _ := Option.some.inj b6
        clear b6
        have q7 : u 7 = _ := Option.some.inj b7
        clear b7
        have q8 : u 8 = _ := Option.some.inj b8
        clear b8
        have q84 : u 84 = _ := Option.some.inj e84
        clear e84
        have q85 : u 85 = _ := Option.some.inj e85
        clear e85
        rw [q1, q2, q4, q5, q6, q7, q8, q84, q85]
        clear q1 q2 q4 q5 q6 q7 q8 q84 q85
        have hbl := hB; clear hB
        replace CX := Lib.hid (CX.out.below hbl CX.out.lt)
        replace VW := Lib.hid (VW.out.below hbl VW.out.lt)
        replace HW := Lib.hid (bel_trans HW.out hbl); clear hbl
        clear CX0 CX1 CX2 VW0 VW1
        have CX0 : w9.cell? ⟨w.heap.size, 0, none⟩ = some (.bool true) := CX.out.cell 0
        have CX1 : w9.cell? ⟨w.heap.size, 1, none⟩ = some (.slice A (limbs n).length c) := CX.out.cell 1
        have CX2 : w9.cell? ⟨w.heap.size, 2, none⟩ = some (.slice B (limbs d0).length d) := CX.out.cell 2
        have VW0 : w9.cell? ⟨gd, 0, none⟩ = some (.int .u64 (cc : Int)) := VW.out.cell 0
        have VW1 : w9.cell? ⟨gd, 1, none⟩ = some (.bool ex) := VW.out.cell 1
        simp only [List.drop_succ_cons, List.drop_zero]
        have q0 : w9.cell? ⟨gd, 0, none⟩ = some (.int .u64 (cc : Int)) := VW.out.cell 0
        have f9 : w9.frozen? ⟨gd, 0, none⟩ = false := VW.out.frozen 0
        go_upto_region 10 with fail
        clear q0 f9
        obtain ⟨wz, hwz⟩ : ∃ wz, wz = (w9.setCell ⟨gd, 0, none⟩ (.int .u64 (U : Int))) := ⟨_, rfl⟩
        rw [← hwz]
        replace CX := Lib.hid (show Blk wz (w.heap.size) 25 #[.bool true, .slice A (limbs n).length c, .slice B (limbs d0).length d] by rw [hwz]; exact (CX.out).far (p := ⟨gd, 0, none⟩) (by simp; omega) _)
        replace VW := Lib.hid (show Blk wz (gd) 34 #[.int .u64 (U : Int), .bool ex] by rw [hwz]; exact (VW.out).put 0 (.int .u64 (U : Int)))
        replace HW := Lib.hid (show Below w.heap.size w wz by rw [hwz]; exact bel_set (p := ⟨gd, 0, none⟩) (HW.out) (by show w.heap.size ≤ gd; omega) _)
        clear hwz
        clear CX0 CX1 CX2 VW0 VW1
        have CX0 : wz.cell? ⟨w.heap.size, 0, none⟩ = some (.bool true) := CX.out.cell 0
        have CX1 : wz.cell? ⟨w.heap.size, 1, none⟩ = some (.slice A (limbs n).length c) := CX.out.cell 1
        have CX2 : wz.cell? ⟨w.heap.size, 2, none⟩ = some (.slice B (limbs d0).length d) := CX.out.cell 2
        have VW0 : wz.cell? ⟨gd, 0, none⟩ = some (.int .u64 (U : Int)) := VW.out.cell 0
        have VW1 : wz.cell? ⟨gd, 1, none⟩ = some (.bool ex) := VW.out.cell 1
        go_wp2_with fail
        refine (alive3 _).mono ?_
        rintro e w4 ⟨rfl, hbl⟩
        replace CX := Lib.hid (CX.out.below hbl CX.out.lt)
        replace VW := Lib.hid (VW.out.below hbl VW.out.lt)
        replace HW := Lib.hid (bel_trans HW.out hbl); clear hbl
        clear CX0 CX1 CX2 VW0 VW1
        have CX0 : w4.cell? ⟨w.heap.size, 0, none⟩ = some (.bool true) := CX.out.cell 0
        have CX1 : w4.cell? ⟨w.heap.size, 1, none⟩ = some (.slice A (limbs n).length c) := CX.out.cell 1
        have CX2 : w4.cell? ⟨w.heap.size, 2, none⟩ = some (.slice B (limbs d0).length d) := CX.out.cell 2
        have VW0 : w4.cell? ⟨gd, 0, none⟩ = some (.int .u64 (U : Int)) := VW.out.cell 0
        have VW1 : w4.cell? ⟨gd, 1, none⟩ = some (.bool ex) := VW.out.cell 1
        go_wp2
        go_ret
        exact ⟨rfl, HW.out⟩

set_option maxRecDepth 100000 in
set_option maxHeartbeats 1000000 in
theorem near_wrong_t (s : Bool) (A B : Option Addr) (c d : Nat) (x0 y0 : List Nat) (xs ys : List Nat) (sz : Int) (p q t : Nat) (w : World) (h1 : RdL w A x0) (h2 : RdL w B y0) (k1 : x0.length ≤ c) (k2 : y0.length ≤ d) (m1 : Lim x0) (m2 : Lim y0) (hf : Fm sz p q t) (z1 : (sz != 32) = true) (z2 : (sz != 64) = false) (hr : rightB s xs ys = false) (e1 : few x0 = xs) (e2 : few y0 = ys) :
    Calls Try.prog 3 #[.agg #[.bool s, .slice A x0.length c, .slice B y0.length d], .int .i64 sz] w (RetT w) := by
  have HF := Lib.hid hf; clear hf
  have HR := Lib.hid hr; clear hr
  have R1 := Lib.hid (show RdL w A xs by rw [← e1]; exact h1.take 18); clear h1
  have R2 := Lib.hid (show RdL w B ys by rw [← e2]; exact h2.take 18); clear h2
  have L18 := Lib.hid (show xs.length ≤ 18 ∧ ys.length ≤ 18 by rw [← e1, ← e2]; exact ⟨few_le _, few_le _⟩)
  have KC := Lib.hid (show xs.length ≤ c ∧ ys.length ≤ d by rw [← e1, ← e2]; exact ⟨Nat.le_trans (few_short _) k1, Nat.le_trans (few_short _) k2⟩)
  have M := Lib.hid (show Lim xs ∧ Lim ys by rw [← e1, ← e2]; exact ⟨few_lim m1, few_lim m2⟩); clear m1 m2
  have F := Lib.hid (And.intro k1 (And.intro k2 (And.intro e1 e2))); clear k1 k2 e1 e2
  obtain ⟨wa, hwa⟩ : ∃ wa, wa = w.alloc (.cells #[.bool s, .slice A x0.length c, .slice B y0.length d] 25) := ⟨_, rfl⟩
  have hbl : Below w.heap.size w wa := by rw [hwa]; exact bel_alloc (bel_refl _) _
  have CX : Blk wa (w.heap.size) 25 #[.bool s, .slice A x0.length c, .slice B y0.length d] := by
    have hz := Blk.new (w) 25 #[.bool s, .slice A x0.length c, .slice B y0.length d]
    rw [hwa]
    exact hz
  replace R1 := Lib.hid (R1.out.below hbl)
  replace R2 := Lib.hid (R2.out.below hbl)
  have HW := Lib.hid hbl; clear hbl
  replace CX := Lib.hid CX
  go_enter Try.func3, Try.ntmps3
  go_wp2_with fail
  rw [← hwa]
  clear hwa
  have CX0 : wa.cell? ⟨w.heap.size, 0, none⟩ = some (.bool s) := CX.out.cell 0
  have CX1 : wa.cell? ⟨w.heap.size, 1, none⟩ = some (.slice A x0.length c) := CX.out.cell 1
  have CX2 : wa.cell? ⟨w.heap.size, 2, none⟩ = some (.slice B y0.length d) := CX.out.cell 2
  refine (few3_is s A B c d x0 y0 xs ys _ F.out.1 F.out.2.1 F.out.2.2.1 F.out.2.2.2).mono ?_
  rintro e w1 ⟨rfl, hbl⟩
  replace R1 := Lib.hid (R1.out.below hbl)
  replace R2 := Lib.hid (R2.out.below hbl)
  replace CX := Lib.hid (CX.out.below hbl CX.out.lt)
  replace HW := Lib.hid (bel_trans HW.out hbl); clear hbl
  clear CX0 CX1 CX2
  have CX0 : w1.cell? ⟨w.heap.size, 0, none⟩ = some (.bool s) := CX.out.cell 0
  have CX1 : w1.cell? ⟨w.heap.size, 1, none⟩ = some (.slice A x0.length c) := CX.out.cell 1
  have CX2 : w1.cell? ⟨w.heap.size, 2, none⟩ = some (.slice B y0.length d) := CX.out.cell 2
  have pd0 := CX.out.cell 0
  have pf0 := CX.out.frozen 0
  have pd1 := CX.out.cell 1
  have pf1 := CX.out.frozen 1
  have pd2 := CX.out.cell 2
  have pf2 := CX.out.frozen 2
  go_upto_region 2 with fail
  clear pd0 pf0 pd1 pf1 pd2 pf2
  obtain ⟨wf, hwf⟩ : ∃ wf, wf = (((w1.setCell ⟨w.heap.size, 0, none⟩ (.bool s)).setCell ⟨w.heap.size, 1, none⟩ (.slice A xs.length c)).setCell ⟨w.heap.size, 2, none⟩ (.slice B ys.length d)) := ⟨_, rfl⟩
  rw [← hwf]
  replace R1 := Lib.hid (show RdL wf _ _ by rw [hwf]; exact RdL.set3 (CX.out) (R1.out) _ _ _)
  replace R2 := Lib.hid (show RdL wf _ _ by rw [hwf]; exact RdL.set3 (CX.out) (R2.out) _ _ _)
  have CX_ := Lib.hid (show Blk wf (w.heap.size) 25 #[.bool s, .slice A xs.length c, .slice B ys.length d] by rw [hwf]; exact (((CX.out).put 0 (.bool s)).put 1 (.slice A xs.length c)).put 2 (.slice B ys.length d))
  replace CX := CX_; clear CX_
  replace HW := Lib.hid (show Below w.heap.size w wf by rw [hwf]; exact bel_set (p := ⟨w.heap.size, 2, none⟩) (bel_set (p := ⟨w.heap.size, 1, none⟩) (bel_set (p := ⟨w.heap.size, 0, none⟩) (HW.out) (by show w.heap.size ≤ w.heap.size; omega) _) (by show w.heap.size ≤ w.heap.size; omega) _) (by show w.heap.size ≤ w.heap.size; omega) _)
  clear hwf
  clear CX0 CX1 CX2
  have CX0 : wf.cell? ⟨w.heap.size, 0, none⟩ = some (.bool s) := CX.out.cell 0
  have CX1 : wf.cell? ⟨w.heap.size, 1, none⟩ = some (.slice A xs.length c) := CX.out.cell 1
  have CX2 : wf.cell? ⟨w.heap.size, 2, none⟩ = some (.slice B ys.length d) := CX.out.cell 2
  go_wp2_with fail
  refine (rbits_wrong s A B c d xs ys sz p q t _ R1.out R2.out M.out.1 M.out.2 L18.out.1 L18.out.2 KC.out.1 KC.out.2 HR.out HF.out).mono ?_
  rintro e w2 ⟨rfl, hbl⟩
  replace R1 := Lib.hid (R1.out.below hbl)
  replace R2 := Lib.hid (R2.out.below hbl)
  replace CX := Lib.hid (CX.out.below hbl CX.out.lt)
  replace HW := Lib.hid (bel_trans HW.out hbl); clear hbl
  clear CX0 CX1 CX2
  have CX0 : w2.cell? ⟨w.heap.size, 0, none⟩ = some (.bool s) := CX.out.cell 0
  have CX1 : w2.cell? ⟨w.heap.size, 1, none⟩ = some (.slice A xs.length c) := CX.out.cell 1
  have CX2 : w2.cell? ⟨w.heap.size, 2, none⟩ = some (.slice B ys.length d) := CX.out.cell 2
  go_wp2_with fail
  refine (refRatRight_is s A B c d xs ys _ R1.out R2.out M.out.1 M.out.2 L18.out.1 L18.out.2 HR.out).mono ?_
  rintro e w3 ⟨rfl, hbl⟩
  replace R1 := Lib.hid (R1.out.below hbl)
  replace R2 := Lib.hid (R2.out.below hbl)
  replace CX := Lib.hid (CX.out.below hbl CX.out.lt)
  replace HW := Lib.hid (bel_trans HW.out hbl); clear hbl
  clear CX0 CX1 CX2
  have CX0 : w3.cell? ⟨w.heap.size, 0, none⟩ = some (.bool s) := CX.out.cell 0
  have CX1 : w3.cell? ⟨w.heap.size, 1, none⟩ = some (.slice A xs.length c) := CX.out.cell 1
  have CX2 : w3.cell? ⟨w.heap.size, 2, none⟩ = some (.slice B ys.length d) := CX.out.cell 2
  go_wp2_with fail
  refine (alive3 _).mono ?_
  rintro e w4 ⟨rfl, hbl⟩
  replace R1 := Lib.hid (R1.out.below hbl)
  replace R2 := Lib.hid (R2.out.below hbl)
  replace CX := Lib.hid (CX.out.below hbl CX.out.lt)
  replace HW := Lib.hid (bel_trans HW.out hbl); clear hbl
  clear CX0 CX1 CX2
  have CX0 : w4.cell? ⟨w.heap.size, 0, none⟩ = some (.bool s) := CX.out.cell 0
  have CX1 : w4.cell? ⟨w.heap.size, 1, none⟩ = some (.slice A xs.length c) := CX.out.cell 1
  have CX2 : w4.cell? ⟨w.heap.size, 2, none⟩ = some (.slice B ys.length d) := CX.out.cell 2
  go_wp2
  go_ret
  exact ⟨rfl, HW.out⟩

set_option maxRecDepth 100000 in
set_option maxHeartbeats 1000000 in
theorem near_over_t (s : Bool) (A B : Option Addr) (c d : Nat) (x0 y0 : List Nat) (n d0 : Nat) (sz : Int) (p q t cc : Nat) (ex : Bool) (w : World) (h1 : RdL w A x0) (h2 : RdL w B y0) (k1 : x0.length ≤ c) (k2 : y0.length ≤ d) (m1 : Lim x0) (m2 : Lim y0) (hf : Fm sz p q t) (z1 : (sz != 32) = true) (z2 : (sz != 64) = false) (hn : n < Top) (hd : d0 < Top) (hq : QR ⟨s, n, d0⟩) (hC : Code p q n d0 cc ex) (ho : (t + q + 2) * 2 ^ (p - 1) ≤ cc) (e1 : few x0 = (limbs n)) (e2 : few y0 = (limbs d0)) :
    Calls Try.prog 3 #[.agg #[.bool s, .slice A x0.length c, .slice B y0.length d], .int .i64 sz] w (RetT w) := by
  obtain ⟨op1, op2, oq0, oq, ot, os1, os2⟩ := hf.ok
  have HF := Lib.hid hf; clear hf
  have HQ := Lib.hid (And.intro hn (And.intro hd hq)); clear hn hd hq
  have HR := Lib.hid ((rightB_q (s := s) HQ.out.1 HQ.out.2.1).2 HQ.out.2.2)
  have HC := Lib.hid hC; clear hC
  obtain ⟨HI, hHI⟩ : ∃ HI, HI = (t + q + 2) * 2 ^ (p - 1) := ⟨_, rfl⟩
  obtain ⟨K, hK⟩ : ∃ K, K = t + q + 2 := ⟨_, rfl⟩
  obtain ⟨H, hH⟩ : ∃ H, H = 2 ^ (p - 1) := ⟨_, rfl⟩
  have hH1 : H ≤ 4503599627370496 := by rw [hH]; exact Nat.pow_le_pow_right (n := 2) (j := 52) (by decide) (by omega)
  have hHI2 : HI ≤ 2047 * 4503599627370496 := by rw [hHI, ← hH]; exact Nat.mul_le_mul (by omega) hH1
  have s0 : IntKind.i64.wrap ((p : Int) - 1) = ((p - 1 : Nat) : Int) := by rw [IntKind.wrap_i64]; omega
  have hmin : min (p - 1) 64 = p - 1 := by omega
  have s3 : (2 : Int) ^ (p - 1) = (H : Int) := by rw [hH, Int.natCast_pow]; rfl
  have s1 : (K : Int) * (H : Int) = (HI : Int) := by rw [hHI, ← hH, ← hK, Int.natCast_mul]
  have s2 : IntKind.u64.wrap (HI : Int) = (HI : Int) := by rw [IntKind.wrap_u64]; omega
  have HO := Lib.hid ho; clear ho
  have HHI := Lib.hid (And.intro hHI hK); clear hHI hK hH hH1 hHI2
  have R1 := Lib.hid (show RdL w A (limbs n) by rw [← e1]; exact h1.take 18); clear h1
  have R2 := Lib.hid (show RdL w B (limbs d0) by rw [← e2]; exact h2.take 18); clear h2
  have L18 := Lib.hid (show (limbs n).length ≤ 18 ∧ (limbs d0).length ≤ 18 by rw [← e1, ← e2]; exact ⟨few_le _, few_le _⟩)
  have KC := Lib.hid (show (limbs n).length ≤ c ∧ (limbs d0).length ≤ d by rw [← e1, ← e2]; exact ⟨Nat.le_trans (few_short _) k1, Nat.le_trans (few_short _) k2⟩)
  have M := Lib.hid (show Lim (limbs n) ∧ Lim (limbs d0) by rw [← e1, ← e2]; exact ⟨few_lim m1, few_lim m2⟩); clear m1 m2
  have F := Lib.hid (And.intro k1 (And.intro k2 (And.intro e1 e2))); clear k1 k2 e1 e2
  obtain ⟨wa, hwa⟩ : ∃ wa, wa = w.alloc (.cells #[.bool s, .slice A x0.length c, .slice B y0.length d] 25) := ⟨_, rfl⟩
  have hbl : Below w.heap.size w wa := by rw [hwa]; exact bel_alloc (bel_refl _) _
  have CX : Blk wa (w.heap.size) 25 #[.bool s, .slice A x0.length c, .slice B y0.length d] := by
    have hz := Blk.new (w) 25 #[.bool s, .slice A x0.length c, .slice B y0.length d]
    rw [hwa]
    exact hz
  replace R1 := Lib.hid (R1.out.below hbl)
  replace R2 := Lib.hid (R2.out.below hbl)
  have HW := Lib.hid hbl; clear hbl
  replace CX := Lib.hid CX
  go_enter Try.func3, Try.ntmps3
  go_wp2_with fail
  rw [← hwa]
  clear hwa
  have CX0 : wa.cell? ⟨w.heap.size, 0, none⟩ = some (.bool s) := CX.out.cell 0
  have CX1 : wa.cell? ⟨w.heap.size, 1, none⟩ = some (.slice A x0.length c) := CX.out.cell 1
  have CX2 : wa.cell? ⟨w.heap.size, 2, none⟩ = some (.slice B y0.length d) := CX.out.cell 2
  refine (few3_is s A B c d x0 y0 (limbs n) (limbs d0) _ F.out.1 F.out.2.1 F.out.2.2.1 F.out.2.2.2).mono ?_
  rintro e w1 ⟨rfl, hbl⟩
  replace R1 := Lib.hid (R1.out.below hbl)
  replace R2 := Lib.hid (R2.out.below hbl)
  replace CX := Lib.hid (CX.out.below hbl CX.out.lt)
  replace HW := Lib.hid (bel_trans HW.out hbl); clear hbl
  clear CX0 CX1 CX2
  have CX0 : w1.cell? ⟨w.heap.size, 0, none⟩ = some (.bool s) := CX.out.cell 0
  have CX1 : w1.cell? ⟨w.heap.size, 1, none⟩ = some (.slice A x0.length c) := CX.out.cell 1
  have CX2 : w1.cell? ⟨w.heap.size, 2, none⟩ = some (.slice B y0.length d) := CX.out.cell 2
  have pd0 := CX.out.cell 0
  have pf0 := CX.out.frozen 0
  have pd1 := CX.out.cell 1
  have pf1 := CX.out.frozen 1
  have pd2 := CX.out.cell 2
  have pf2 := CX.out.frozen 2
  go_upto_region 2 with fail
  clear pd0 pf0 pd1 pf1 pd2 pf2
  obtain ⟨wf, hwf⟩ : ∃ wf, wf = (((w1.setCell ⟨w.heap.size, 0, none⟩ (.bool s)).setCell ⟨w.heap.size, 1, none⟩ (.slice A (limbs n).length c)).setCell ⟨w.heap.size, 2, none⟩ (.slice B (limbs d0).length d)) := ⟨_, rfl⟩
  rw [← hwf]
  replace R1 := Lib.hid (show RdL wf _ _ by rw [hwf]; exact RdL.set3 (CX.out) (R1.out) _ _ _)
  replace R2 := Lib.hid (show RdL wf _ _ by rw [hwf]; exact RdL.set3 (CX.out) (R2.out) _ _ _)
  have CX_ := Lib.hid (show Blk wf (w.heap.size) 25 #[.bool s, .slice A (limbs n).length c, .slice B (limbs d0).length d] by rw [hwf]; exact (((CX.out).put 0 (.bool s)).put 1 (.slice A (limbs n).length c)).put 2 (.slice B (limbs d0).length d))
  replace CX := CX_; clear CX_
  replace HW := Lib.hid (show Below w.heap.size w wf by rw [hwf]; exact bel_set (p := ⟨w.heap.size, 2, none⟩) (bel_set (p := ⟨w.heap.size, 1, none⟩) (bel_set (p := ⟨w.heap.size, 0, none⟩) (HW.out) (by show w.heap.size ≤ w.heap.size; omega) _) (by show w.heap.size ≤ w.heap.size; omega) _) (by show w.heap.size ≤ w.heap.size; omega) _)
  clear hwf
  clear CX0 CX1 CX2
  have CX0 : wf.cell? ⟨w.heap.size, 0, none⟩ = some (.bool s) := CX.out.cell 0
  have CX1 : wf.cell? ⟨w.heap.size, 1, none⟩ = some (.slice A (limbs n).length c) := CX.out.cell 1
  have CX2 : wf.cell? ⟨w.heap.size, 2, none⟩ = some (.slice B (limbs d0).length d) := CX.out.cell 2
  go_wp2_with fail
  refine (rbits_over s A B c d n d0 sz p q t _ R1.out R2.out KC.out.1 KC.out.2 HQ.out.1 HQ.out.2.1 HQ.out.2.2 HF.out HC.out HO.out).mono ?_
  rintro e w2 ⟨rfl, hbl⟩
  replace R1 := Lib.hid (R1.out.below hbl)
  replace R2 := Lib.hid (R2.out.below hbl)
  replace CX := Lib.hid (CX.out.below hbl CX.out.lt)
  replace HW := Lib.hid (bel_trans HW.out hbl); clear hbl
  clear CX0 CX1 CX2
  have CX0 : w2.cell? ⟨w.heap.size, 0, none⟩ = some (.bool s) := CX.out.cell 0
  have CX1 : w2.cell? ⟨w.heap.size, 1, none⟩ = some (.slice A (limbs n).length c) := CX.out.cell 1
  have CX2 : w2.cell? ⟨w.heap.size, 2, none⟩ = some (.slice B (limbs d0).length d) := CX.out.cell 2
  go_wp2_with fail
  refine (refRatRight_is s A B c d (limbs n) (limbs d0) _ R1.out R2.out M.out.1 M.out.2 L18.out.1 L18.out.2 HR.out).mono ?_
  rintro e w3 ⟨rfl, hbl⟩
  replace R1 := Lib.hid (R1.out.below hbl)
  replace R2 := Lib.hid (R2.out.below hbl)
  replace CX := Lib.hid (CX.out.below hbl CX.out.lt)
  replace HW := Lib.hid (bel_trans HW.out hbl); clear hbl
  clear CX0 CX1 CX2
  have CX0 : w3.cell? ⟨w.heap.size, 0, none⟩ = some (.bool s) := CX.out.cell 0
  have CX1 : w3.cell? ⟨w.heap.size, 1, none⟩ = some (.slice A (limbs n).length c) := CX.out.cell 1
  have CX2 : w3.cell? ⟨w.heap.size, 2, none⟩ = some (.slice B (limbs d0).length d) := CX.out.cell 2
  go_upto_region 5 with fail
  have hsz0 : w.heap.size < w3.heap.size := CX.out.lt
  refine wp_region_typed 10 (TOf [VIs (.pointer (some ⟨w.heap.size, 1, none⟩)),
      VIs (.slice A (limbs n).length c),
      VIs (.string (dec n)),
      VIs (.pointer (some ⟨w.heap.size, 2, none⟩)),
      VIs (.slice B (limbs d0).length d),
      VIs (.string (dec d0)),
      VIs (.agg #[.string (dec n), .string (dec d0)]),
      VIs (.int .i64 sz),
      VIs (.agg #[.int .u64 (HI : Int), .bool false]),
      VNewF w3.heap.size 34 #[.int .u64 0, .bool false]]) (by kernel_rfl) (by kernel_rfl) (by kernel_rfl) (LiftAll.at_ (.cons (VIs.lift _) (.cons (VIs.lift _) (.cons (VIs.lift _) (.cons (VIs.lift _) (.cons (VIs.lift _) (.cons (VIs.lift _) (.cons (VIs.lift _) (.cons (VIs.lift _) (.cons (VIs.lift _) (.cons (VNewF.lift _ _ _) .nil))))))))))) (steps_all (steps_cons ?_ (steps_cons ?_ (steps_cons ?_ (steps_cons ?_ (steps_cons ?_ (steps_cons ?_ (steps_cons ?_ (steps_cons ?_ (steps_cons ?_ (steps_cons ?_ steps_zero))))))))))) ?fin
  · intro a0 w9 K9 hF hB hK hC
    have b2 := hF.base (k := 2) (v := .pointer (some ⟨w.heap.size, 0, none⟩)) (by kernel_rfl) rfl
    clear hF hB hK
    go_simp
    exact hC _ _ (bel_refl _) fun _ _ => rfl
  · intro a0 w9 K9 hF hB hK hC
    obtain ⟨v42, e42, z42⟩ := dep hK 0 (g := .data) (j := 0) (k := 42) rfl rfl rfl
    have z42 : v42 = .pointer (some ⟨w.heap.size, 1, none⟩) := z42
    subst z42
    have x9 : w9.cell? ⟨w.heap.size, 1, none⟩ = some (.slice A (limbs n).length c) := (CX.out.below hB CX.out.lt).cell 1
    clear hF hB hK
    go_simp
    exact hC _ _ (bel_refl _) fun _ _ => rfl
  · intro a0 w9 K9 hF hB hK hC
    obtain ⟨v43, e43, z43⟩ := dep hK 0 (g := .data) (j := 1) (k := 43) rfl rfl rfl
    have z43 : v43 = .slice A (limbs n).length c := z43
    subst z43
    have HB9 := Lib.hid hB
    clear hF hB hK
    go_simp
    refine (text_num A c n _ (R1.out.below HB9.out) HQ.out.1).mono ?_
    rintro e w7 ⟨rfl, hbl⟩
    exact hC _ _ hbl fun _ _ => rfl
  · intro a0 w9 K9 hF hB hK hC
    have b2 := hF.base (k := 2) (v := .pointer (some ⟨w.heap.size, 0, none⟩)) (by kernel_rfl) rfl
    clear hF hB hK
    go_simp
    exact hC _ _ (bel_refl _) fun _ _ => rfl
  · intro a0 w9 K9 hF hB hK hC
    obtain ⟨v45, e45, z45⟩ := dep hK 0 (g := .data) (j := 3) (k := 45) rfl rfl rfl
    have z45 : v45 = .pointer (some ⟨w.heap.size, 2, none⟩) := z45
    subst z45
    have x9 : w9.cell? ⟨w.heap.size, 2, none⟩ = some (.slice B (limbs d0).length d) := (CX.out.below hB CX.out.lt).cell 2
    clear hF hB hK
    go_simp
    exact hC _ _ (bel_refl _) fun _ _ => rfl
  · intro a0 w9 K9 hF hB hK hC
    obtain ⟨v46, e46, z46⟩ := dep hK 0 (g := .data) (j := 4) (k := 46) rfl rfl rfl
    have z46 : v46 = .slice B (limbs d0).length d := z46
    subst z46
    have HB9 := Lib.hid hB
    clear hF hB hK
    go_simp
    refine (text_num B d d0 _ (R2.out.below HB9.out) HQ.out.2.1).mono ?_
    rintro e w7 ⟨rfl, hbl⟩
    exact hC _ _ hbl fun _ _ => rfl
  · intro a0 w9 K9 hF hB hK hC
    obtain ⟨v44, e44, z44⟩ := dep hK 0 (g := .data) (j := 2) (k := 44) rfl rfl rfl
    have z44 : v44 = .string (dec n) := z44
    subst z44
    obtain ⟨v47, e47, z47⟩ := dep hK 1 (g := .data) (j := 5) (k := 47) rfl rfl rfl
    have z47 : v47 = .string (dec d0) := z47
    subst z47
    have HB9 := Lib.hid hB
    clear hF hB hK
    go_simp
    exact hC _ _ (bel_refl _) fun _ _ => rfl
  · intro a0 w9 K9 hF hB hK hC
    have b1 := hF.base (k := 1) (v := .int .i64 sz) (by kernel_rfl) rfl
    clear hF hB hK
    go_simp
    exact hC _ _ (bel_refl _) fun _ _ => rfl
  · intro a0 w9 K9 hF hB hK hC
    obtain ⟨v48, e48, z48⟩ := dep hK 0 (g := .data) (j := 6) (k := 48) rfl rfl rfl
    have z48 : v48 = .agg #[.string (dec n), .string (dec d0)] := z48
    subst z48
    obtain ⟨v49, e49, z49⟩ := dep hK 1 (g := .data) (j := 7) (k := 49) rfl rfl rfl
    have z49 : v49 = .int .i64 sz := z49
    subst z49
    have HB9 := Lib.hid hB
    clear hF hB hK
    go_simp
    refine (refNear_over HF.out n d0 _ HQ.out.1 HQ.out.2.1 HQ.out.2.2.den HC.out HHI.out.1 (by rw [HHI.out.1]; exact HO.out)).mono ?_
    rintro e w7 ⟨rfl, hbl⟩
    exact hC _ _ hbl fun _ _ => rfl
  · intro a0 w9 K9 hF hB hK hC
    have HB9 := Lib.hid hB
    clear hF hB hK
    go_simp
    exact hC _ _ (bel_alloc (bel_refl _) _) fun _ _ => ⟨_, rfl, HB9.out.size, Blk.new _ _ _⟩
  case fin =>
    intro a0 w9 hF hB hK
    have b1 := hF.base (k := 1) (v := .int .i64 sz) (by kernel_rfl) rfl
    have b2 := hF.base (k := 2) (v := .pointer (some ⟨w.heap.size, 0, none⟩)) (by kernel_rfl) rfl
    have b4 := hF.base (k := 4) (v := .bool false) (by kernel_rfl) rfl
    have b5 := hF.base (k := 5) (v := .int .u64 0) (by kernel_rfl) rfl
    have b6 := hF.base (k := 6) (v := .bool false) (by kernel_rfl) rfl
    have b7 := hF.base (k := 7) (v := .int .i64 2) (by kernel_rfl) rfl
    have hsz := hF.size
    have hdf := hF.defers
    clear hF
    obtain ⟨v8, e8, z8⟩ := known hK 9 (k := 8) (by decide) rfl
    have z8 : ∃ g, v8 = .pointer (some ⟨g, 0, none⟩) ∧ w3.heap.size ≤ g ∧ Blk w9 g 34 #[.int .u64 0, .bool false] := z8
    obtain ⟨gd, rfl, hgd, Zgd⟩ := z8
    obtain ⟨v50, e50, z50⟩ := known hK 8 (k := 50) (by decide) rfl
    have z50 : v50 = .agg #[.int .u64 (HI : Int), .bool false] := z50
    subst z50
    clear hK
    obtain ⟨⟨l0⟩, df⟩ := a0
    have hs0 : l0.length = 103 := hsz
    clear hsz
    replace hdf : df = _ := hdf
    subst hdf
    obtain ⟨u, rfl⟩ := lits_103 hs0
    clear hs0
    have q1 : u 1 = _ := Option.some.inj b1
    clear b1
    have q2 : u 2 = _ := Option.some.inj b2
    clear b2
    have q4 : u 4 = _ := Option.some.inj b4
    clear b4
    have q5 : u 5 = _ := Option.some.inj b5
    clear b5
    have q6 : u 6 = _ := Option.some.inj b6
    clear b6
    have q7 : u 7 = _ := Option.some.inj b7
    clear b7
    have q8 : u 8 = _ := Option.some.inj e8
    clear e8
    have q50 : u 50 = _ := Option.some.inj e50
    clear e50
    rw [q1, q2, q4, q5, q6, q7, q8, q50]
    clear q1 q2 q4 q5 q6 q7 q8 q50
    have hbl := hB; clear hB
    replace R1 := Lib.hid (R1.out.below hbl)
    replace R2 := Lib.hid (R2.out.below hbl)
    replace CX := Lib.hid (CX.out.below hbl CX.out.lt)
    replace HW := Lib.hid (bel_trans HW.out hbl); clear hbl
    clear CX0 CX1 CX2
    have CX0 : w9.cell? ⟨w.heap.size, 0, none⟩ = some (.bool s) := CX.out.cell 0
    have CX1 : w9.cell? ⟨w.heap.size, 1, none⟩ = some (.slice A (limbs n).length c) := CX.out.cell 1
    have CX2 : w9.cell? ⟨w.heap.size, 2, none⟩ = some (.slice B (limbs d0).length d) := CX.out.cell 2
    simp only [List.drop_succ_cons, List.drop_zero]
    have gl : w.heap.size < gd := by omega
    replace Zgd := Lib.hid Zgd
    have VW := Zgd; clear Zgd
    have xd0 : w9.cell? ⟨gd, 0, none⟩ = some (.int .u64 0) := VW.out.cell 0
    have xf0 : w9.frozen? ⟨gd, 0, none⟩ = false := VW.out.frozen 0
    have xd1 : w9.cell? ⟨gd, 1, none⟩ = some (.bool false) := VW.out.cell 1
    have xf1 : w9.frozen? ⟨gd, 1, none⟩ = false := VW.out.frozen 1
    go_upto_region 6 with fail
    clear xd0 xd1 xf0 xf1
    obtain ⟨wv, hwv⟩ : ∃ wv, wv = ((w9.setCell ⟨gd, 0, none⟩ (.int .u64 (HI : Int))).setCell ⟨gd, 1, none⟩ (.bool false)) := ⟨_, rfl⟩
    rw [← hwv]
    replace CX := Lib.hid (show Blk wv (w.heap.size) 25 #[.bool s, .slice A (limbs n).length c, .slice B (limbs d0).length d] by rw [hwv]; exact ((CX.out).far (p := ⟨gd, 0, none⟩) (by simp; omega) _).far (p := ⟨gd, 1, none⟩) (by simp; omega) _)
    replace VW := Lib.hid (show Blk wv (gd) 34 #[.int .u64 (HI : Int), .bool false] by rw [hwv]; exact ((VW.out).put 0 (.int .u64 (HI : Int))).put 1 (.bool false))
    replace HW := Lib.hid (show Below w.heap.size w wv by rw [hwv]; exact bel_set (p := ⟨gd, 1, none⟩) (bel_set (p := ⟨gd, 0, none⟩) (HW.out) (by show w.heap.size ≤ gd; omega) _) (by show w.heap.size ≤ gd; omega) _)
    clear hwv
    clear CX0 CX1 CX2
    have CX0 : wv.cell? ⟨w.heap.size, 0, none⟩ = some (.bool s) := CX.out.cell 0
    have CX1 : wv.cell? ⟨w.heap.size, 1, none⟩ = some (.slice A (limbs n).length c) := CX.out.cell 1
    have CX2 : wv.cell? ⟨w.heap.size, 2, none⟩ = some (.slice B (limbs d0).length d) := CX.out.cell 2
    refine wp_region_typed 9 (TOf [VIs (.pointer (some ⟨gd, 0, none⟩)),
        VIs (.int .u64 (HI : Int)),
        VIs (.int .i64 sz),
        VIs (.int .u64 (K : Int)),
        VIs (.int .i64 sz),
        VIs (.int .i64 (p : Int)),
        VIs (.int .i64 ((p - 1 : Nat) : Int)),
        VIs (.int .u64 (HI : Int)),
        VIs (.bool true)]) (by kernel_rfl) (by kernel_rfl) (by kernel_rfl) (LiftAll.at_ (.cons (VIs.lift _) (.cons (VIs.lift _) (.cons (VIs.lift _) (.cons (VIs.lift _) (.cons (VIs.lift _) (.cons (VIs.lift _) (.cons (VIs.lift _) (.cons (VIs.lift _) (.cons (VIs.lift _) .nil)))))))))) (steps_all (steps_cons ?_ (steps_cons ?_ (steps_cons ?_ (steps_cons ?_ (steps_cons ?_ (steps_cons ?_ (steps_cons ?_ (steps_cons ?_ (steps_cons ?_ steps_zero)))))))))) ?fin
    · intro a0 w9 K9 hF hB hK hC
      have b8 := hF.base (k := 8) (v := .pointer (some ⟨gd, 0, none⟩)) (by kernel_rfl) rfl
      clear hF hB hK
      go_simp
      exact hC _ _ (bel_refl _) fun _ _ => rfl
    · intro a0 w9 K9 hF hB hK hC
      obtain ⟨v51, e51, z51⟩ := dep hK 0 (g := .data) (j := 0) (k := 51) rfl rfl rfl
      have z51 : v51 = .pointer (some ⟨gd, 0, none⟩) := z51
      subst z51
      have x9 : w9.cell? ⟨gd, 0, none⟩ = some (.int .u64 (HI : Int)) := (VW.out.below hB VW.out.lt).cell 0
      clear hF hB hK
      go_simp
      exact hC _ _ (bel_refl _) fun _ _ => rfl
    · intro a0 w9 K9 hF hB hK hC
      have b1 := hF.base (k := 1) (v := .int .i64 sz) (by kernel_rfl) rfl
      clear hF hB hK
      go_simp
      exact hC _ _ (bel_refl _) fun _ _ => rfl
    · intro a0 w9 K9 hF hB hK hC
      obtain ⟨v53, e53, z53⟩ := dep hK 0 (g := .data) (j := 2) (k := 53) rfl rfl rfl
      have z53 : v53 = .int .i64 sz := z53
      subst z53
      have HB9 := Lib.hid hB
      clear hF hB hK
      go_simp
      refine (refHigh_is HF.out _ HHI.out.2).mono ?_
      rintro e w7 ⟨rfl, hbl⟩
      exact hC _ _ hbl fun _ _ => rfl
    · intro a0 w9 K9 hF hB hK hC
      have b1 := hF.base (k := 1) (v := .int .i64 sz) (by kernel_rfl) rfl
      clear hF hB hK
      go_simp
      exact hC _ _ (bel_refl _) fun _ _ => rfl
    · intro a0 w9 K9 hF hB hK hC
      obtain ⟨v55, e55, z55⟩ := dep hK 0 (g := .data) (j := 4) (k := 55) rfl rfl rfl
      have z55 : v55 = .int .i64 sz := z55
      subst z55
      have HB9 := Lib.hid hB
      clear hF hB hK
      go_simp
      refine (refMant_any HF.out _).mono ?_
      rintro e w7 ⟨rfl, hbl⟩
      exact hC _ _ hbl fun _ _ => rfl
    · intro a0 w9 K9 hF hB hK hC
      obtain ⟨v56, e56, z56⟩ := dep hK 0 (g := .data) (j := 5) (k := 56) rfl rfl rfl
      have z56 : v56 = .int .i64 (p : Int) := z56
      subst z56
      have HB9 := Lib.hid hB
      clear hF hB hK
      go_simp
      exact hC _ _ (bel_refl _) fun _ _ => rfl
    · intro a0 w9 K9 hF hB hK hC
      obtain ⟨v54, e54, z54⟩ := dep hK 0 (g := .data) (j := 3) (k := 54) rfl rfl rfl
      have z54 : v54 = .int .u64 (K : Int) := z54
      subst z54
      obtain ⟨v57, e57, z57⟩ := dep hK 1 (g := .data) (j := 6) (k := 57) rfl rfl rfl
      have z57 : v57 = .int .i64 ((p - 1 : Nat) : Int) := z57
      subst z57
      have HB9 := Lib.hid hB
      clear hF hB hK
      go_simp
      exact hC _ _ (bel_refl _) fun _ _ => rfl
    · intro a0 w9 K9 hF hB hK hC
      obtain ⟨v52, e52, z52⟩ := dep hK 0 (g := .data) (j := 1) (k := 52) rfl rfl rfl
      have z52 : v52 = .int .u64 (HI : Int) := z52
      subst z52
      obtain ⟨v58, e58, z58⟩ := dep hK 1 (g := .data) (j := 7) (k := 58) rfl rfl rfl
      have z58 : v58 = .int .u64 (HI : Int) := z58
      subst z58
      have HB9 := Lib.hid hB
      clear hF hB hK
      go_simp
      exact hC _ _ (bel_refl _) fun _ _ => rfl
    case fin =>
      intro a0 w9 hF hB hK
      have b1 := hF.base (k := 1) (v := .int .i64 sz) (by kernel_rfl) rfl
      have b2 := hF.base (k := 2) (v := .pointer (some ⟨w.heap.size, 0, none⟩)) (by kernel_rfl) rfl
      have b4 := hF.base (k := 4) (v := .bool false) (by kernel_rfl) rfl
      have b5 := hF.base (k := 5) (v := .int .u64 0) (by kernel_rfl) rfl
      have b6 := hF.base (k := 6) (v := .bool false) (by kernel_rfl) rfl
      have b7 := hF.base (k := 7) (v := .int .i64 2) (by kernel_rfl) rfl
      have b8 := hF.base (k := 8) (v := .pointer (some ⟨gd, 0, none⟩)) (by kernel_rfl) rfl
      have hsz := hF.size
      have hdf := hF.defers
      clear hF
      obtain ⟨v59, e59, z59⟩ := known hK 8 (k := 59) (by decide) rfl
      have z59 : v59 = .bool true := z59
      subst z59
      clear hK
      obtain ⟨⟨l0⟩, df⟩ := a0
      have hs0 : l0.length = 103 := hsz
      clear hsz
      replace hdf : df = _ := hdf
      subst hdf
      obtain ⟨u, rfl⟩ := lits_103 hs0
      clear hs0
      have q1 : u 1 = _ := Option.some.inj b1
      clear b1
      have q2 : u 2 = _ := Option.some.inj b2
      clear b2
      have q4 : u 4 = _ := Option.some.inj b4
      clear b4
      have q5 : u 5 = _ := Option.some.inj b5
      clear b5
      have q6 : u 6 = _ := Option.some.inj b6
      clear b6
      have q7 : u 7 = _ := Option.some.inj b7
      clear b7
      have q8 : u 8 = _ := Option.some.inj b8
      clear b8
      have q59 : u 59 = _ := Option.some.inj e59
      clear e59
      rw [q1, q2, q4, q5, q6, q7, q8, q59]
      clear q1 q2 q4 q5 q6 q7 q8 q59
      have hbl := hB; clear hB
      replace CX := Lib.hid (CX.out.below hbl CX.out.lt)
      replace VW := Lib.hid (VW.out.below hbl VW.out.lt)
      replace HW := Lib.hid (bel_trans HW.out hbl); clear hbl
      clear CX0 CX1 CX2
      have CX0 : w9.cell? ⟨w.heap.size, 0, none⟩ = some (.bool s) := CX.out.cell 0
      have CX1 : w9.cell? ⟨w.heap.size, 1, none⟩ = some (.slice A (limbs n).length c) := CX.out.cell 1
      have CX2 : w9.cell? ⟨w.heap.size, 2, none⟩ = some (.slice B (limbs d0).length d) := CX.out.cell 2
      refine wpList_nil ?_
      clear CX0 CX1 CX2
      have CX0 : w9.cell? ⟨w.heap.size, 0, none⟩ = some (.bool s) := CX.out.cell 0
      have CX1 : w9.cell? ⟨w.heap.size, 1, none⟩ = some (.slice A (limbs n).length c) := CX.out.cell 1
      have CX2 : w9.cell? ⟨w.heap.size, 2, none⟩ = some (.slice B (limbs d0).length d) := CX.out.cell 2
      have VW0 : w9.cell? ⟨gd, 0, none⟩ = some (.int .u64 (HI : Int)) := VW.out.cell 0
      have VW1 : w9.cell? ⟨gd, 1, none⟩ = some (.bool false) := VW.out.cell 1
      go_wp2_with fail
      refine (alive3 _).mono ?_
      rintro e w4 ⟨rfl, hbl⟩
      replace CX := Lib.hid (CX.out.below hbl CX.out.lt)
      replace VW := Lib.hid (VW.out.below hbl VW.out.lt)
      replace HW := Lib.hid (bel_trans HW.out hbl); clear hbl
      clear CX0 CX1 CX2 VW0 VW1
      have CX0 : w4.cell? ⟨w.heap.size, 0, none⟩ = some (.bool s) := CX.out.cell 0
      have CX1 : w4.cell? ⟨w.heap.size, 1, none⟩ = some (.slice A (limbs n).length c) := CX.out.cell 1
      have CX2 : w4.cell? ⟨w.heap.size, 2, none⟩ = some (.slice B (limbs d0).length d) := CX.out.cell 2
      have VW0 : w4.cell? ⟨gd, 0, none⟩ = some (.int .u64 (HI : Int)) := VW.out.cell 0
      have VW1 : w4.cell? ⟨gd, 1, none⟩ = some (.bool false) := VW.out.cell 1
      go_wp2
      go_ret
      exact ⟨rfl, HW.out⟩

set_option maxRecDepth 100000 in
set_option maxHeartbeats 1000000 in
theorem near_pos_t (A B : Option Addr) (c d : Nat) (x0 y0 : List Nat) (n d0 : Nat) (sz : Int) (p q t cc : Nat) (ex : Bool) (w : World) (h1 : RdL w A x0) (h2 : RdL w B y0) (k1 : x0.length ≤ c) (k2 : y0.length ≤ d) (m1 : Lim x0) (m2 : Lim y0) (hf : Fm sz p q t) (z1 : (sz != 32) = true) (z2 : (sz != 64) = false) (hn : n < Top) (hd : d0 < Top) (hq : QR ⟨false, n, d0⟩) (hC : Code p q n d0 cc ex) (ho : ¬ (t + q + 2) * 2 ^ (p - 1) ≤ cc) (e1 : few x0 = (limbs n)) (e2 : few y0 = (limbs d0)) :
    Calls Try.prog 3 #[.agg #[.bool false, .slice A x0.length c, .slice B y0.length d], .int .i64 sz] w (RetT w) := by
  obtain ⟨op1, op2, oq0, oq, ot, os1, os2⟩ := hf.ok
  have HF := Lib.hid hf; clear hf
  have HQ := Lib.hid (And.intro hn (And.intro hd hq)); clear hn hd hq
  have HR := Lib.hid ((rightB_q (s := false) HQ.out.1 HQ.out.2.1).2 HQ.out.2.2)
  have HC := Lib.hid hC; clear hC
  obtain ⟨HI, hHI⟩ : ∃ HI, HI = (t + q + 2) * 2 ^ (p - 1) := ⟨_, rfl⟩
  obtain ⟨K, hK⟩ : ∃ K, K = t + q + 2 := ⟨_, rfl⟩
  obtain ⟨H, hH⟩ : ∃ H, H = 2 ^ (p - 1) := ⟨_, rfl⟩
  have hH1 : H ≤ 4503599627370496 := by rw [hH]; exact Nat.pow_le_pow_right (n := 2) (j := 52) (by decide) (by omega)
  have hHI2 : HI ≤ 2047 * 4503599627370496 := by rw [hHI, ← hH]; exact Nat.mul_le_mul (by omega) hH1
  have s0 : IntKind.i64.wrap ((p : Int) - 1) = ((p - 1 : Nat) : Int) := by rw [IntKind.wrap_i64]; omega
  have hmin : min (p - 1) 64 = p - 1 := by omega
  have s3 : (2 : Int) ^ (p - 1) = (H : Int) := by rw [hH, Int.natCast_pow]; rfl
  have s1 : (K : Int) * (H : Int) = (HI : Int) := by rw [hHI, ← hH, ← hK, Int.natCast_mul]
  have s2 : IntKind.u64.wrap (HI : Int) = (HI : Int) := by rw [IntKind.wrap_u64]; omega
  have hne : cc ≠ HI := by rw [hHI]; intro h; exact ho (Nat.le_of_eq h.symm)
  have s4 : ((cc : Int) == (HI : Int)) = false := by simp only [beq_eq_false_iff_ne, ne_eq]; omega
  clear hne
  obtain ⟨U, hU⟩ : ∃ U, sgn false sz cc = U := ⟨_, rfl⟩
  have hUc : U = cc := by rw [← hU]; unfold sgn; rw [if_neg (by simp)]
  have HU := Lib.hid (And.intro hU hUc); clear hU hUc
  have HO := Lib.hid ho; clear ho
  have HHI := Lib.hid (And.intro hHI hK); clear hHI hK hH hH1 hHI2
  have R1 := Lib.hid (show RdL w A (limbs n) by rw [← e1]; exact h1.take 18); clear h1
  have R2 := Lib.hid (show RdL w B (limbs d0) by rw [← e2]; exact h2.take 18); clear h2
  have L18 := Lib.hid (show (limbs n).length ≤ 18 ∧ (limbs d0).length ≤ 18 by rw [← e1, ← e2]; exact ⟨few_le _, few_le _⟩)
  have KC := Lib.hid (show (limbs n).length ≤ c ∧ (limbs d0).length ≤ d by rw [← e1, ← e2]; exact ⟨Nat.le_trans (few_short _) k1, Nat.le_trans (few_short _) k2⟩)
  have M := Lib.hid (show Lim (limbs n) ∧ Lim (limbs d0) by rw [← e1, ← e2]; exact ⟨few_lim m1, few_lim m2⟩); clear m1 m2
  have F := Lib.hid (And.intro k1 (And.intro k2 (And.intro e1 e2))); clear k1 k2 e1 e2
  obtain ⟨wa, hwa⟩ : ∃ wa, wa = w.alloc (.cells #[.bool false, .slice A x0.length c, .slice B y0.length d] 25) := ⟨_, rfl⟩
  have hbl : Below w.heap.size w wa := by rw [hwa]; exact bel_alloc (bel_refl _) _
  have CX : Blk wa (w.heap.size) 25 #[.bool false, .slice A x0.length c, .slice B y0.length d] := by
    have hz := Blk.new (w) 25 #[.bool false, .slice A x0.length c, .slice B y0.length d]
    rw [hwa]
    exact hz
  replace R1 := Lib.hid (R1.out.below hbl)
  replace R2 := Lib.hid (R2.out.below hbl)
  have HW := Lib.hid hbl; clear hbl
  replace CX := Lib.hid CX
  go_enter Try.func3, Try.ntmps3
  go_wp2_with fail
  rw [← hwa]
  clear hwa
  have CX0 : wa.cell? ⟨w.heap.size, 0, none⟩ = some (.bool false) := CX.out.cell 0
  have CX1 : wa.cell? ⟨w.heap.size, 1, none⟩ = some (.slice A x0.length c) := CX.out.cell 1
  have CX2 : wa.cell? ⟨w.heap.size, 2, none⟩ = some (.slice B y0.length d) := CX.out.cell 2
  refine (few3_is false A B c d x0 y0 (limbs n) (limbs d0) _ F.out.1 F.out.2.1 F.out.2.2.1 F.out.2.2.2).mono ?_
  rintro e w1 ⟨rfl, hbl⟩
  replace R1 := Lib.hid (R1.out.below hbl)
  replace R2 := Lib.hid (R2.out.below hbl)
  replace CX := Lib.hid (CX.out.below hbl CX.out.lt)
  replace HW := Lib.hid (bel_trans HW.out hbl); clear hbl
  clear CX0 CX1 CX2
  have CX0 : w1.cell? ⟨w.heap.size, 0, none⟩ = some (.bool false) := CX.out.cell 0
  have CX1 : w1.cell? ⟨w.heap.size, 1, none⟩ = some (.slice A x0.length c) := CX.out.cell 1
  have CX2 : w1.cell? ⟨w.heap.size, 2, none⟩ = some (.slice B y0.length d) := CX.out.cell 2
  have pd0 := CX.out.cell 0
  have pf0 := CX.out.frozen 0
  have pd1 := CX.out.cell 1
  have pf1 := CX.out.frozen 1
  have pd2 := CX.out.cell 2
  have pf2 := CX.out.frozen 2
  go_upto_region 2 with fail
  clear pd0 pf0 pd1 pf1 pd2 pf2
  obtain ⟨wf, hwf⟩ : ∃ wf, wf = (((w1.setCell ⟨w.heap.size, 0, none⟩ (.bool false)).setCell ⟨w.heap.size, 1, none⟩ (.slice A (limbs n).length c)).setCell ⟨w.heap.size, 2, none⟩ (.slice B (limbs d0).length d)) := ⟨_, rfl⟩
  rw [← hwf]
  replace R1 := Lib.hid (show RdL wf _ _ by rw [hwf]; exact RdL.set3 (CX.out) (R1.out) _ _ _)
  replace R2 := Lib.hid (show RdL wf _ _ by rw [hwf]; exact RdL.set3 (CX.out) (R2.out) _ _ _)
  have CX_ := Lib.hid (show Blk wf (w.heap.size) 25 #[.bool false, .slice A (limbs n).length c, .slice B (limbs d0).length d] by rw [hwf]; exact (((CX.out).put 0 (.bool false)).put 1 (.slice A (limbs n).length c)).put 2 (.slice B (limbs d0).length d))
  replace CX := CX_; clear CX_
  replace HW := Lib.hid (show Below w.heap.size w wf by rw [hwf]; exact bel_set (p := ⟨w.heap.size, 2, none⟩) (bel_set (p := ⟨w.heap.size, 1, none⟩) (bel_set (p := ⟨w.heap.size, 0, none⟩) (HW.out) (by show w.heap.size ≤ w.heap.size; omega) _) (by show w.heap.size ≤ w.heap.size; omega) _) (by show w.heap.size ≤ w.heap.size; omega) _)
  clear hwf
  clear CX0 CX1 CX2
  have CX0 : wf.cell? ⟨w.heap.size, 0, none⟩ = some (.bool false) := CX.out.cell 0
  have CX1 : wf.cell? ⟨w.heap.size, 1, none⟩ = some (.slice A (limbs n).length c) := CX.out.cell 1
  have CX2 : wf.cell? ⟨w.heap.size, 2, none⟩ = some (.slice B (limbs d0).length d) := CX.out.cell 2
  go_wp2_with fail
  refine (rbits_fit false A B c d n d0 sz p q t _ R1.out R2.out KC.out.1 KC.out.2 HQ.out.1 HQ.out.2.1 HQ.out.2.2 HF.out HC.out HO.out HU.out.1).mono ?_
  rintro e w2 ⟨rfl, hbl⟩
  replace R1 := Lib.hid (R1.out.below hbl)
  replace R2 := Lib.hid (R2.out.below hbl)
  replace CX := Lib.hid (CX.out.below hbl CX.out.lt)
  replace HW := Lib.hid (bel_trans HW.out hbl); clear hbl
  clear CX0 CX1 CX2
  have CX0 : w2.cell? ⟨w.heap.size, 0, none⟩ = some (.bool false) := CX.out.cell 0
  have CX1 : w2.cell? ⟨w.heap.size, 1, none⟩ = some (.slice A (limbs n).length c) := CX.out.cell 1
  have CX2 : w2.cell? ⟨w.heap.size, 2, none⟩ = some (.slice B (limbs d0).length d) := CX.out.cell 2
  rw [HU.out.2]
  go_wp2_with fail
  refine (refRatRight_is false A B c d (limbs n) (limbs d0) _ R1.out R2.out M.out.1 M.out.2 L18.out.1 L18.out.2 HR.out).mono ?_
  rintro e w3 ⟨rfl, hbl⟩
  replace R1 := Lib.hid (R1.out.below hbl)
  replace R2 := Lib.hid (R2.out.below hbl)
  replace CX := Lib.hid (CX.out.below hbl CX.out.lt)
  replace HW := Lib.hid (bel_trans HW.out hbl); clear hbl
  clear CX0 CX1 CX2
  have CX0 : w3.cell? ⟨w.heap.size, 0, none⟩ = some (.bool false) := CX.out.cell 0
  have CX1 : w3.cell? ⟨w.heap.size, 1, none⟩ = some (.slice A (limbs n).length c) := CX.out.cell 1
  have CX2 : w3.cell? ⟨w.heap.size, 2, none⟩ = some (.slice B (limbs d0).length d) := CX.out.cell 2
  go_upto_region 5 with fail
  have hsz0 : w.heap.size < w3.heap.size := CX.out.lt
  refine wp_region_typed 10 (TOf [VIs (.pointer (some ⟨w.heap.size, 1, none⟩)),
      VIs (.slice A (limbs n).length c),
      VIs (.string (dec n)),
      VIs (.pointer (some ⟨w.heap.size, 2, none⟩)),
      VIs (.slice B (limbs d0).length d),
      VIs (.string (dec d0)),
      VIs (.agg #[.string (dec n), .string (dec d0)]),
      VIs (.int .i64 sz),
      VIs (.agg #[.int .u64 (cc : Int), .bool ex]),
      VNewF w3.heap.size 34 #[.int .u64 0, .bool false]]) (by kernel_rfl) (by kernel_rfl) (by kernel_rfl) (LiftAll.at_ (.cons (VIs.lift _) (.cons (VIs.lift _) (.cons (VIs.lift _) (.cons (VIs.lift _) (.cons (VIs.lift _) (.cons (VIs.lift _) (.cons (VIs.lift _) (.cons (VIs.lift _) (.cons (VIs.lift _) (.cons (VNewF.lift _ _ _) .nil))))))))))) (steps_all (steps_cons ?_ (steps_cons ?_ (steps_cons ?_ (steps_cons ?_ (steps_cons ?_ (steps_cons ?_ (steps_cons ?_ (steps_cons ?_ (steps_cons ?_ (steps_cons ?_ steps_zero))))))))))) ?fin
  · intro a0 w9 K9 hF hB hK hC
    have b2 := hF.base (k := 2) (v := .pointer (some ⟨w.heap.size, 0, none⟩)) (by kernel_rfl) rfl
    clear hF hB hK
    go_simp
    exact hC _ _ (bel_refl _) fun _ _ => rfl
  · intro a0 w9 K9 hF hB hK hC
    obtain ⟨v42, e42, z42⟩ := dep hK 0 (g := .data) (j := 0) (k := 42) rfl rfl rfl
    have z42 : v42 = .pointer (some ⟨w.heap.size, 1, none⟩) := z42
    subst z42
    have x9 : w9.cell? ⟨w.heap.size, 1, none⟩ = some (.slice A (limbs n).length c) := (CX.out.below hB CX.out.lt).cell 1
    clear hF hB hK
    go_simp
    exact hC _ _ (bel_refl _) fun _ _ => rfl
  · intro a0 w9 K9 hF hB hK hC
    obtain ⟨v43, e43, z43⟩ := dep hK 0 (g := .data) (j := 1) (k := 43) rfl rfl rfl
    have z43 : v43 = .slice A (limbs n).length c := z43
    subst z43
    have HB9 := Lib.hid hB
    clear hF hB hK
    go_simp
    refine (text_num A c n _ (R1.out.below HB9.out) HQ.out.1).mono ?_
    rintro e w7 ⟨rfl, hbl⟩
    exact hC _ _ hbl fun _ _ => rfl
  · intro a0 w9 K9 hF hB hK hC
    have b2 := hF.base (k := 2) (v := .pointer (some ⟨w.heap.size, 0, none⟩)) (by kernel_rfl) rfl
    clear hF hB hK
    go_simp
    exact hC _ _ (bel_refl _) fun _ _ => rfl
  · intro a0 w9 K9 hF hB hK hC
    obtain ⟨v45, e45, z45⟩ := dep hK 0 (g := .data) (j := 3) (k := 45) rfl rfl rfl
    have z45 : v45 = .pointer (some ⟨w.heap.size, 2, none⟩) := z45
    subst z45
    have x9 : w9.cell? ⟨w.heap.size, 2, none⟩ = some (.slice B (limbs d0).length d) := (CX.out.below hB CX.out.lt).cell 2
    clear hF hB hK
    go_simp
    exact hC _ _ (bel_refl _) fun _ _ => rfl
  · intro a0 w9 K9 hF hB hK hC
    obtain ⟨v46, e46, z46⟩ := dep hK 0 (g := .data) (j := 4) (k := 46) rfl rfl rfl
    have z46 : v46 = .slice B (limbs d0).length d := z46
    subst z46
    have HB9 := Lib.hid hB
    clear hF hB hK
    go_simp
    refine (text_num B d d0 _ (R2.out.below HB9.out) HQ.out.2.1).mono ?_
    rintro e w7 ⟨rfl, hbl⟩
    exact hC _ _ hbl fun _ _ => rfl
  · intro a0 w9 K9 hF hB hK hC
    obtain ⟨v44, e44, z44⟩ := dep hK 0 (g := .data) (j := 2) (k := 44) rfl rfl rfl
    have z44 : v44 = .string (dec n) := z44
    subst z44
    obtain ⟨v47, e47, z47⟩ := dep hK 1 (g := .data) (j := 5) (k := 47) rfl rfl rfl
    have z47 : v47 = .string (dec d0) := z47
    subst z47
    have HB9 := Lib.hid hB
    clear hF hB hK
    go_simp
    exact hC _ _ (bel_refl _) fun _ _ => rfl
  · intro a0 w9 K9 hF hB hK hC
    have b1 := hF.base (k := 1) (v := .int .i64 sz) (by kernel_rfl) rfl
    clear hF hB hK
    go_simp
    exact hC _ _ (bel_refl _) fun _ _ => rfl
  · intro a0 w9 K9 hF hB hK hC
    obtain ⟨v48, e48, z48⟩ := dep hK 0 (g := .data) (j := 6) (k := 48) rfl rfl rfl
    have z48 : v48 = .agg #[.string (dec n), .string (dec d0)] := z48
    subst z48
    obtain ⟨v49, e49, z49⟩ := dep hK 1 (g := .data) (j := 7) (k := 49) rfl rfl rfl
    have z49 : v49 = .int .i64 sz := z49
    subst z49
    have HB9 := Lib.hid hB
    clear hF hB hK
    go_simp
    refine (refNear_fit HF.out n d0 _ HQ.out.1 HQ.out.2.1 HQ.out.2.2.den HC.out HHI.out.1 (by rw [HHI.out.1]; exact HO.out)).mono ?_
    rintro e w7 ⟨rfl, hbl⟩
    exact hC _ _ hbl fun _ _ => rfl
  · intro a0 w9 K9 hF hB hK hC
    have HB9 := Lib.hid hB
    clear hF hB hK
    go_simp
    exact hC _ _ (bel_alloc (bel_refl _) _) fun _ _ => ⟨_, rfl, HB9.out.size, Blk.new _ _ _⟩
  case fin =>
    intro a0 w9 hF hB hK
    have b1 := hF.base (k := 1) (v := .int .i64 sz) (by kernel_rfl) rfl
    have b2 := hF.base (k := 2) (v := .pointer (some ⟨w.heap.size, 0, none⟩)) (by kernel_rfl) rfl
    have b4 := hF.base (k := 4) (v := .bool false) (by kernel_rfl) rfl
    have b5 := hF.base (k := 5) (v := .int .u64 (cc : Int)) (by kernel_rfl) rfl
    have b6 := hF.base (k := 6) (v := .bool ex) (by kernel_rfl) rfl
    have b7 := hF.base (k := 7) (v := .int .i64 0) (by kernel_rfl) rfl
    have hsz := hF.size
    have hdf := hF.defers
    clear hF
    obtain ⟨v8, e8, z8⟩ := known hK 9 (k := 8) (by decide) rfl
    have z8 : ∃ g, v8 = .pointer (some ⟨g, 0, none⟩) ∧ w3.heap.size ≤ g ∧ Blk w9 g 34 #[.int .u64 0, .bool false] := z8
    obtain ⟨gd, rfl, hgd, Zgd⟩ := z8
    obtain ⟨v50, e50, z50⟩ := known hK 8 (k := 50) (by decide) rfl
    have z50 : v50 = .agg #[.int .u64 (cc : Int), .bool ex] := z50
    subst z50
    clear hK
    obtain ⟨⟨l0⟩, df⟩ := a0
    have hs0 : l0.length = 103 := hsz
    clear hsz
    replace hdf : df = _ := hdf
    subst hdf
    obtain ⟨u, rfl⟩ := lits_103 hs0
    clear hs0
    have q1 : u 1 = _ := Option.some.inj b1
    clear b1
    have q2 : u 2 = _ := Option.some.inj b2
    clear b2
    have q4 : u 4 = _ := Option.some.inj b4
    clear b4
    have q5 : u 5 = _ := Option.some.inj b5
    clear b5
    have q6 : u 6 = _ := Option.some.inj b6
    clear b6
    have q7 : u 7 = _ := Option.some.inj b7
    clear b7
    have q8 : u 8 = _ := Option.some.inj e8
    clear e8
    have q50 : u 50 = _ := Option.some.inj e50
    clear e50
    rw [q1, q2, q4, q5, q6, q7, q8, q50]
    clear q1 q2 q4 q5 q6 q7 q8 q50
    have hbl := hB; clear hB
    replace R1 := Lib.hid (R1.out.below hbl)
    replace R2 := Lib.hid (R2.out.below hbl)
    replace CX := Lib.hid (CX.out.below hbl CX.out.lt)
    replace HW := Lib.hid (bel_trans HW.out hbl); clear hbl
    clear CX0 CX1 CX2
    have CX0 : w9.cell? ⟨w.heap.size, 0, none⟩ = some (.bool false) := CX.out.cell 0
    have CX1 : w9.cell? ⟨w.heap.size, 1, none⟩ = some (.slice A (limbs n).length c) := CX.out.cell 1
    have CX2 : w9.cell? ⟨w.heap.size, 2, none⟩ = some (.slice B (limbs d0).length d) := CX.out.cell 2
    simp only [List.drop_succ_cons, List.drop_zero]
    have gl : w.heap.size < gd := by omega
    replace Zgd := Lib.hid Zgd
    have VW := Zgd; clear Zgd
    have xd0 : w9.cell? ⟨gd, 0, none⟩ = some (.int .u64 0) := VW.out.cell 0
    have xf0 : w9.frozen? ⟨gd, 0, none⟩ = false := VW.out.frozen 0
    have xd1 : w9.cell? ⟨gd, 1, none⟩ = some (.bool false) := VW.out.cell 1
    have xf1 : w9.frozen? ⟨gd, 1, none⟩ = false := VW.out.frozen 1
    go_upto_region 6 with fail
    clear xd0 xd1 xf0 xf1
    obtain ⟨wv, hwv⟩ : ∃ wv, wv = ((w9.setCell ⟨gd, 0, none⟩ (.int .u64 (cc : Int))).setCell ⟨gd, 1, none⟩ (.bool ex)) := ⟨_, rfl⟩
    rw [← hwv]
    replace CX := Lib.hid (show Blk wv (w.heap.size) 25 #[.bool false, .slice A (limbs n).length c, .slice B (limbs d0).length d] by rw [hwv]; exact ((CX.out).far (p := ⟨gd, 0, none⟩) (by simp; omega) _).far (p := ⟨gd, 1, none⟩) (by simp; omega) _)
    replace VW := Lib.hid (show Blk wv (gd) 34 #[.int .u64 (cc : Int), .bool ex] by rw [hwv]; exact ((VW.out).put 0 (.int .u64 (cc : Int))).put 1 (.bool ex))
    replace HW := Lib.hid (show Below w.heap.size w wv by rw [hwv]; exact bel_set (p := ⟨gd, 1, none⟩) (bel_set (p := ⟨gd, 0, none⟩) (HW.out) (by show w.heap.size ≤ gd; omega) _) (by show w.heap.size ≤ gd; omega) _)
    clear hwv
    clear CX0 CX1 CX2
    have CX0 : wv.cell? ⟨w.heap.size, 0, none⟩ = some (.bool false) := CX.out.cell 0
    have CX1 : wv.cell? ⟨w.heap.size, 1, none⟩ = some (.slice A (limbs n).length c) := CX.out.cell 1
    have CX2 : wv.cell? ⟨w.heap.size, 2, none⟩ = some (.slice B (limbs d0).length d) := CX.out.cell 2
    refine wp_region_typed 9 (TOf [VIs (.pointer (some ⟨gd, 0, none⟩)),
        VIs (.int .u64 (cc : Int)),
        VIs (.int .i64 sz),
        VIs (.int .u64 (K : Int)),
        VIs (.int .i64 sz),
        VIs (.int .i64 (p : Int)),
        VIs (.int .i64 ((p - 1 : Nat) : Int)),
        VIs (.int .u64 (HI : Int)),
        VIs (.bool false)]) (by kernel_rfl) (by kernel_rfl) (by kernel_rfl) (LiftAll.at_ (.cons (VIs.lift _) (.cons (VIs.lift _) (.cons (VIs.lift _) (.cons (VIs.lift _) (.cons (VIs.lift _) (.cons (VIs.lift _) (.cons (VIs.lift _) (.cons (VIs.lift _) (.cons (VIs.lift _) .nil)))))))))) (steps_all (steps_cons ?_ (steps_cons ?_ (steps_cons ?_ (steps_cons ?_ (steps_cons ?_ (steps_cons ?_ (steps_cons ?_ (steps_cons ?_ (steps_cons ?_ steps_zero)))))))))) ?fin
    · intro a0 w9 K9 hF hB hK hC
      have b8 := hF.base (k := 8) (v := .pointer (some ⟨gd, 0, none⟩)) (by kernel_rfl) rfl
      clear hF hB hK
      go_simp
      exact hC _ _ (bel_refl _) fun _ _ => rfl
    · intro a0 w9 K9 hF hB hK hC
      obtain ⟨v51, e51, z51⟩ := dep hK 0 (g := .data) (j := 0) (k := 51) rfl rfl rfl
      have z51 : v51 = .pointer (some ⟨gd, 0, none⟩) := z51
      subst z51
      have x9 : w9.cell? ⟨gd, 0, none⟩ = some (.int .u64 (cc : Int)) := (VW.out.below hB VW.out.lt).cell 0
      clear hF hB hK
      go_simp
      exact hC _ _ (bel_refl _) fun _ _ => rfl
    · intro a0 w9 K9 hF hB hK hC
      have b1 := hF.base (k := 1) (v := .int .i64 sz) (by kernel_rfl) rfl
      clear hF hB hK
      go_simp
      exact hC _ _ (bel_refl _) fun _ _ => rfl
    · intro a0 w9 K9 hF hB hK hC
      obtain ⟨v53, e53, z53⟩ := dep hK 0 (g := .data) (j := 2) (k := 53) rfl rfl rfl
      have z53 : v53 = .int .i64 sz := z53
      subst z53
      have HB9 := Lib.hid hB
      clear hF hB hK
      go_simp
      refine (refHigh_is HF.out _ HHI.out.2).mono ?_
      rintro e w7 ⟨rfl, hbl⟩
      exact hC _ _ hbl fun _ _ => rfl
    · intro a0 w9 K9 hF hB hK hC
      have b1 := hF.base (k := 1) (v := .int .i64 sz) (by kernel_rfl) rfl
      clear hF hB hK
      go_simp
      exact hC _ _ (bel_refl _) fun _ _ => rfl
    · intro a0 w9 K9 hF hB hK hC
      obtain ⟨v55, e55, z55⟩ := dep hK 0 (g := .data) (j := 4) (k := 55) rfl rfl rfl
      have z55 : v55 = .int .i64 sz := z55
      subst z55
      have HB9 := Lib.hid hB
      clear hF hB hK
      go_simp
      refine (refMant_any HF.out _).mono ?_
      rintro e w7 ⟨rfl, hbl⟩
      exact hC _ _ hbl fun _ _ => rfl
    · intro a0 w9 K9 hF hB hK hC
      obtain ⟨v56, e56, z56⟩ := dep hK 0 (g := .data) (j := 5) (k := 56) rfl rfl rfl
      have z56 : v56 = .int .i64 (p : Int) := z56
      subst z56
      have HB9 := Lib.hid hB
      clear hF hB hK
      go_simp
      exact hC _ _ (bel_refl _) fun _ _ => rfl
    · intro a0 w9 K9 hF hB hK hC
      obtain ⟨v54, e54, z54⟩ := dep hK 0 (g := .data) (j := 3) (k := 54) rfl rfl rfl
      have z54 : v54 = .int .u64 (K : Int) := z54
      subst z54
      obtain ⟨v57, e57, z57⟩ := dep hK 1 (g := .data) (j := 6) (k := 57) rfl rfl rfl
      have z57 : v57 = .int .i64 ((p - 1 : Nat) : Int) := z57
      subst z57
      have HB9 := Lib.hid hB
      clear hF hB hK
      go_simp
      exact hC _ _ (bel_refl _) fun _ _ => rfl
    · intro a0 w9 K9 hF hB hK hC
      obtain ⟨v52, e52, z52⟩ := dep hK 0 (g := .data) (j := 1) (k := 52) rfl rfl rfl
      have z52 : v52 = .int .u64 (cc : Int) := z52
      subst z52
      obtain ⟨v58, e58, z58⟩ := dep hK 1 (g := .data) (j := 7) (k := 58) rfl rfl rfl
      have z58 : v58 = .int .u64 (HI : Int) := z58
      subst z58
      have HB9 := Lib.hid hB
      clear hF hB hK
      go_simp
      exact hC _ _ (bel_refl _) fun _ _ => rfl
    case fin =>
      intro a0 w9 hF hB hK
      have b1 := hF.base (k := 1) (v := .int .i64 sz) (by kernel_rfl) rfl
      have b2 := hF.base (k := 2) (v := .pointer (some ⟨w.heap.size, 0, none⟩)) (by kernel_rfl) rfl
      have b4 := hF.base (k := 4) (v := .bool false) (by kernel_rfl) rfl
      have b5 := hF.base (k := 5) (v := .int .u64 (cc : Int)) (by kernel_rfl) rfl
      have b6 := hF.base (k := 6) (v := .bool ex) (by kernel_rfl) rfl
      have b7 := hF.base (k := 7) (v := .int .i64 0) (by kernel_rfl) rfl
      have b8 := hF.base (k := 8) (v := .pointer (some ⟨gd, 0, none⟩)) (by kernel_rfl) rfl
      have hsz := hF.size
      have hdf := hF.defers
      clear hF
      obtain ⟨v59, e59, z59⟩ := known hK 8 (k := 59) (by decide) rfl
      have z59 : v59 = .bool false := z59
      subst z59
      clear hK
      obtain ⟨⟨l0⟩, df⟩ := a0
      have hs0 : l0.length = 103 := hsz
      clear hsz
      replace hdf : df = _ := hdf
      subst hdf
      obtain ⟨u, rfl⟩ := lits_103 hs0
      clear hs0
      have q1 : u 1 = _ := Option.some.inj b1
      clear b1
      have q2 : u 2 = _ := Option.some.inj b2
      clear b2
      have q4 : u 4 = _ := Option.some.inj b4
      clear b4
      have q5 : u 5 = _ := Option.some.inj b5
      clear b5
      have q6 : u 6 = _ := Option.some.inj b6
      clear b6
      have q7 : u 7 = _ := Option.some.inj b7
      clear b7
      have q8 : u 8 = _ := Option.some.inj b8
      clear b8
      have q59 : u 59 = _ := Option.some.inj e59
      clear e59
      rw [q1, q2, q4, q5, q6, q7, q8, q59]
      clear q1 q2 q4 q5 q6 q7 q8 q59
      have hbl := hB; clear hB
      replace CX := Lib.hid (CX.out.below hbl CX.out.lt)
      replace VW := Lib.hid (VW.out.below hbl VW.out.lt)
      replace HW := Lib.hid (bel_trans HW.out hbl); clear hbl
      clear CX0 CX1 CX2
      have CX0 : w9.cell? ⟨w.heap.size, 0, none⟩ = some (.bool false) := CX.out.cell 0
      have CX1 : w9.cell? ⟨w.heap.size, 1, none⟩ = some (.slice A (limbs n).length c) := CX.out.cell 1
      have CX2 : w9.cell? ⟨w.heap.size, 2, none⟩ = some (.slice B (limbs d0).length d) := CX.out.cell 2
      refine wpList_nil ?_
      clear CX0 CX1 CX2
      have CX0 : w9.cell? ⟨w.heap.size, 0, none⟩ = some (.bool false) := CX.out.cell 0
      have CX1 : w9.cell? ⟨w.heap.size, 1, none⟩ = some (.slice A (limbs n).length c) := CX.out.cell 1
      have CX2 : w9.cell? ⟨w.heap.size, 2, none⟩ = some (.slice B (limbs d0).length d) := CX.out.cell 2
      have VW0 : w9.cell? ⟨gd, 0, none⟩ = some (.int .u64 (cc : Int)) := VW.out.cell 0
      have VW1 : w9.cell? ⟨gd, 1, none⟩ = some (.bool ex) := VW.out.cell 1
      go_wp2_with fail
      refine (alive3 _).mono ?_
      rintro e w4 ⟨rfl, hbl⟩
      replace CX := Lib.hid (CX.out.below hbl CX.out.lt)
      replace VW := Lib.hid (VW.out.below hbl VW.out.lt)
      replace HW := Lib.hid (bel_trans HW.out hbl); clear hbl
      clear CX0 CX1 CX2 VW0 VW1
      have CX0 : w4.cell? ⟨w.heap.size, 0, none⟩ = some (.bool false) := CX.out.cell 0
      have CX1 : w4.cell? ⟨w.heap.size, 1, none⟩ = some (.slice A (limbs n).length c) := CX.out.cell 1
      have CX2 : w4.cell? ⟨w.heap.size, 2, none⟩ = some (.slice B (limbs d0).length d) := CX.out.cell 2
      have VW0 : w4.cell? ⟨gd, 0, none⟩ = some (.int .u64 (cc : Int)) := VW.out.cell 0
      have VW1 : w4.cell? ⟨gd, 1, none⟩ = some (.bool ex) := VW.out.cell 1
      go_wp2
      go_ret
      exact ⟨rfl, HW.out⟩

set_option maxRecDepth 100000 in
set_option maxHeartbeats 1000000 in
theorem near_zero_t (A B : Option Addr) (c d : Nat) (x0 y0 : List Nat) (n d0 : Nat) (sz : Int) (p q t cc : Nat) (ex : Bool) (w : World) (h1 : RdL w A x0) (h2 : RdL w B y0) (k1 : x0.length ≤ c) (k2 : y0.length ≤ d) (m1 : Lim x0) (m2 : Lim y0) (hf : Fm sz p q t) (z1 : (sz != 32) = true) (z2 : (sz != 64) = false) (hn : n < Top) (hd : d0 < Top) (hq : QR ⟨true, n, d0⟩) (hC : Code p q n d0 cc ex) (ho : ¬ (t + q + 2) * 2 ^ (p - 1) ≤ cc) (hz : cc = 0) (e1 : few x0 = (limbs n)) (e2 : few y0 = (limbs d0)) :
    Calls Try.prog 3 #[.agg #[.bool true, .slice A x0.length c, .slice B y0.length d], .int .i64 sz] w (RetT w) := by
  obtain ⟨op1, op2, oq0, oq, ot, os1, os2⟩ := hf.ok
  have HF := Lib.hid hf; clear hf
  have HQ := Lib.hid (And.intro hn (And.intro hd hq)); clear hn hd hq
  have HR := Lib.hid ((rightB_q (s := true) HQ.out.1 HQ.out.2.1).2 HQ.out.2.2)
  have HC := Lib.hid hC; clear hC
  obtain ⟨HI, hHI⟩ : ∃ HI, HI = (t + q + 2) * 2 ^ (p - 1) := ⟨_, rfl⟩
  obtain ⟨K, hK⟩ : ∃ K, K = t + q + 2 := ⟨_, rfl⟩
  obtain ⟨H, hH⟩ : ∃ H, H = 2 ^ (p - 1) := ⟨_, rfl⟩
  have hH1 : H ≤ 4503599627370496 := by rw [hH]; exact Nat.pow_le_pow_right (n := 2) (j := 52) (by decide) (by omega)
  have hHI2 : HI ≤ 2047 * 4503599627370496 := by rw [hHI, ← hH]; exact Nat.mul_le_mul (by omega) hH1
  have s0 : IntKind.i64.wrap ((p : Int) - 1) = ((p - 1 : Nat) : Int) := by rw [IntKind.wrap_i64]; omega
  have hmin : min (p - 1) 64 = p - 1 := by omega
  have s3 : (2 : Int) ^ (p - 1) = (H : Int) := by rw [hH, Int.natCast_pow]; rfl
  have s1 : (K : Int) * (H : Int) = (HI : Int) := by rw [hHI, ← hH, ← hK, Int.natCast_mul]
  have s2 : IntKind.u64.wrap (HI : Int) = (HI : Int) := by rw [IntKind.wrap_u64]; omega
  have hne : cc ≠ HI := by rw [hHI]; intro h; exact ho (Nat.le_of_eq h.symm)
  have s4 : ((cc : Int) == (HI : Int)) = false := by simp only [beq_eq_false_iff_ne, ne_eq]; omega
  clear hne
  obtain ⟨U, hU⟩ : ∃ U, sgn true sz cc = U := ⟨_, rfl⟩
  have hUc : U = cc := by rw [← hU]; unfold sgn; rw [if_neg (by simp [hz])]
  have HU := Lib.hid (And.intro hU hUc); clear hU hUc
  have c1 : ((cc : Int) != 0) = false := by simp [hz]
  clear hz
  have HO := Lib.hid ho; clear ho
  have HHI := Lib.hid (And.intro hHI hK); clear hHI hK hH hH1 hHI2
  have R1 := Lib.hid (show RdL w A (limbs n) by rw [← e1]; exact h1.take 18); clear h1
  have R2 := Lib.hid (show RdL w B (limbs d0) by rw [← e2]; exact h2.take 18); clear h2
  have L18 := Lib.hid (show (limbs n).length ≤ 18 ∧ (limbs d0).length ≤ 18 by rw [← e1, ← e2]; exact ⟨few_le _, few_le _⟩)
  have KC := Lib.hid (show (limbs n).length ≤ c ∧ (limbs d0).length ≤ d by rw [← e1, ← e2]; exact ⟨Nat.le_trans (few_short _) k1, Nat.le_trans (few_short _) k2⟩)
  have M := Lib.hid (show Lim (limbs n) ∧ Lim (limbs d0) by rw [← e1, ← e2]; exact ⟨few_lim m1, few_lim m2⟩); clear m1 m2
  have F := Lib.hid (And.intro k1 (And.intro k2 (And.intro e1 e2))); clear k1 k2 e1 e2
  obtain ⟨wa, hwa⟩ : ∃ wa, wa = w.alloc (.cells #[.bool true, .slice A x0.length c, .slice B y0.length d] 25) := ⟨_, rfl⟩
  have hbl : Below w.heap.size w wa := by rw [hwa]; exact bel_alloc (bel_refl _) _
  have CX : Blk wa (w.heap.size) 25 #[.bool true, .slice A x0.length c, .slice B y0.length d] := by
    have hz := Blk.new (w) 25 #[.bool true, .slice A x0.length c, .slice B y0.length d]
    rw [hwa]
    exact hz
  replace R1 := Lib.hid (R1.out.below hbl)
  replace R2 := Lib.hid (R2.out.below hbl)
  have HW := Lib.hid hbl; clear hbl
  replace CX := Lib.hid CX
  go_enter Try.func3, Try.ntmps3
  go_wp2_with fail
  rw [← hwa]
  clear hwa
  have CX0 : wa.cell? ⟨w.heap.size, 0, none⟩ = some (.bool true) := CX.out.cell 0
  have CX1 : wa.cell? ⟨w.heap.size, 1, none⟩ = some (.slice A x0.length c) := CX.out.cell 1
  have CX2 : wa.cell? ⟨w.heap.size, 2, none⟩ = some (.slice B y0.length d) := CX.out.cell 2
  refine (few3_is true A B c d x0 y0 (limbs n) (limbs d0) _ F.out.1 F.out.2.1 F.out.2.2.1 F.out.2.2.2).mono ?_
  rintro e w1 ⟨rfl, hbl⟩
  replace R1 := Lib.hid (R1.out.below hbl)
  replace R2 := Lib.hid (R2.out.below hbl)
  replace CX := Lib.hid (CX.out.below hbl CX.out.lt)
  replace HW := Lib.hid (bel_trans HW.out hbl); clear hbl
  clear CX0 CX1 CX2
  have CX0 : w1.cell? ⟨w.heap.size, 0, none⟩ = some (.bool true) := CX.out.cell 0
  have CX1 : w1.cell? ⟨w.heap.size, 1, none⟩ = some (.slice A x0.length c) := CX.out.cell 1
  have CX2 : w1.cell? ⟨w.heap.size, 2, none⟩ = some (.slice B y0.length d) := CX.out.cell 2
  have pd0 := CX.out.cell 0
  have pf0 := CX.out.frozen 0
  have pd1 := CX.out.cell 1
  have pf1 := CX.out.frozen 1
  have pd2 := CX.out.cell 2
  have pf2 := CX.out.frozen 2
  go_upto_region 2 with fail
  clear pd0 pf0 pd1 pf1 pd2 pf2
  obtain ⟨wf, hwf⟩ : ∃ wf, wf = (((w1.setCell ⟨w.heap.size, 0, none⟩ (.bool true)).setCell ⟨w.heap.size, 1, none⟩ (.slice A (limbs n).length c)).setCell ⟨w.heap.size, 2, none⟩ (.slice B (limbs d0).length d)) := ⟨_, rfl⟩
  rw [← hwf]
  replace R1 := Lib.hid (show RdL wf _ _ by rw [hwf]; exact RdL.set3 (CX.out) (R1.out) _ _ _)
  replace R2 := Lib.hid (show RdL wf _ _ by rw [hwf]; exact RdL.set3 (CX.out) (R2.out) _ _ _)
  have CX_ := Lib.hid (show Blk wf (w.heap.size) 25 #[.bool true, .slice A (limbs n).length c, .slice B (limbs d0).length d] by rw [hwf]; exact (((CX.out).put 0 (.bool true)).put 1 (.slice A (limbs n).length c)).put 2 (.slice B (limbs d0).length d))
  replace CX := CX_; clear CX_
  replace HW := Lib.hid (show Below w.heap.size w wf by rw [hwf]; exact bel_set (p := ⟨w.heap.size, 2, none⟩) (bel_set (p := ⟨w.heap.size, 1, none⟩) (bel_set (p := ⟨w.heap.size, 0, none⟩) (HW.out) (by show w.heap.size ≤ w.heap.size; omega) _) (by show w.heap.size ≤ w.heap.size; omega) _) (by show w.heap.size ≤ w.heap.size; omega) _)
  clear hwf
  clear CX0 CX1 CX2
  have CX0 : wf.cell? ⟨w.heap.size, 0, none⟩ = some (.bool true) := CX.out.cell 0
  have CX1 : wf.cell? ⟨w.heap.size, 1, none⟩ = some (.slice A (limbs n).length c) := CX.out.cell 1
  have CX2 : wf.cell? ⟨w.heap.size, 2, none⟩ = some (.slice B (limbs d0).length d) := CX.out.cell 2
  go_wp2_with fail
  refine (rbits_fit true A B c d n d0 sz p q t _ R1.out R2.out KC.out.1 KC.out.2 HQ.out.1 HQ.out.2.1 HQ.out.2.2 HF.out HC.out HO.out HU.out.1).mono ?_
  rintro e w2 ⟨rfl, hbl⟩
  replace R1 := Lib.hid (R1.out.below hbl)
  replace R2 := Lib.hid (R2.out.below hbl)
  replace CX := Lib.hid (CX.out.below hbl CX.out.lt)
  replace HW := Lib.hid (bel_trans HW.out hbl); clear hbl
  clear CX0 CX1 CX2
  have CX0 : w2.cell? ⟨w.heap.size, 0, none⟩ = some (.bool true) := CX.out.cell 0
  have CX1 : w2.cell? ⟨w.heap.size, 1, none⟩ = some (.slice A (limbs n).length c) := CX.out.cell 1
  have CX2 : w2.cell? ⟨w.heap.size, 2, none⟩ = some (.slice B (limbs d0).length d) := CX.out.cell 2
  rw [HU.out.2]
  go_wp2_with fail
  refine (refRatRight_is true A B c d (limbs n) (limbs d0) _ R1.out R2.out M.out.1 M.out.2 L18.out.1 L18.out.2 HR.out).mono ?_
  rintro e w3 ⟨rfl, hbl⟩
  replace R1 := Lib.hid (R1.out.below hbl)
  replace R2 := Lib.hid (R2.out.below hbl)
  replace CX := Lib.hid (CX.out.below hbl CX.out.lt)
  replace HW := Lib.hid (bel_trans HW.out hbl); clear hbl
  clear CX0 CX1 CX2
  have CX0 : w3.cell? ⟨w.heap.size, 0, none⟩ = some (.bool true) := CX.out.cell 0
  have CX1 : w3.cell? ⟨w.heap.size, 1, none⟩ = some (.slice A (limbs n).length c) := CX.out.cell 1
  have CX2 : w3.cell? ⟨w.heap.size, 2, none⟩ = some (.slice B (limbs d0).length d) := CX.out.cell 2
  go_upto_region 5 with fail
  have hsz0 : w.heap.size < w3.heap.size := CX.out.lt
  refine wp_region_typed 10 (TOf [VIs (.pointer (some ⟨w.heap.size, 1, none⟩)),
      VIs (.slice A (limbs n).length c),
      VIs (.string (dec n)),
      VIs (.pointer (some ⟨w.heap.size, 2, none⟩)),
      VIs (.slice B (limbs d0).length d),
      VIs (.string (dec d0)),
      VIs (.agg #[.string (dec n), .string (dec d0)]),
      VIs (.int .i64 sz),
      VIs (.agg #[.int .u64 (cc : Int), .bool ex]),
      VNewF w3.heap.size 34 #[.int .u64 0, .bool false]]) (by kernel_rfl) (by kernel_rfl) (by kernel_rfl) (LiftAll.at_ (.cons (VIs.lift _) (.cons (VIs.lift _) (.cons (VIs.lift _) (.cons (VIs.lift _) (.cons (VIs.lift _) (.cons (VIs.lift _) (.cons (VIs.lift _) (.cons (VIs.lift _) (.cons (VIs.lift _) (.cons (VNewF.lift _ _ _) .nil))))))))))) (steps_all (steps_cons ?_ (steps_cons ?_ (steps_cons ?_ (steps_cons ?_ (steps_cons ?_ (steps_cons ?_ (steps_cons ?_ (steps_cons ?_ (steps_cons ?_ (steps_cons ?_ steps_zero))))))))))) ?fin
  · intro a0 w9 K9 hF hB hK hC
    have b2 := hF.base (k := 2) (v := .pointer (some ⟨w.heap.size, 0, none⟩)) (by kernel_rfl) rfl
    clear hF hB hK
    go_simp
    exact hC _ _ (bel_refl _) fun _ _ => rfl
  · intro a0 w9 K9 hF hB hK hC
    obtain ⟨v42, e42, z42⟩ := dep hK 0 (g := .data) (j := 0) (k := 42) rfl rfl rfl
    have z42 : v42 = .pointer (some ⟨w.heap.size, 1, none⟩) := z42
    subst z42
    have x9 : w9.cell? ⟨w.heap.size, 1, none⟩ = some (.slice A (limbs n).length c) := (CX.out.below hB CX.out.lt).cell 1
    clear hF hB hK
    go_simp
    exact hC _ _ (bel_refl _) fun _ _ => rfl
  · intro a0 w9 K9 hF hB hK hC
    obtain ⟨v43, e43, z43⟩ := dep hK 0 (g := .data) (j := 1) (k := 43) rfl rfl rfl
    have z43 : v43 = .slice A (limbs n).length c := z43
    subst z43
    have HB9 := Lib.hid hB
    clear hF hB hK
    go_simp
    refine (text_num A c n _ (R1.out.below HB9.out) HQ.out.1).mono ?_
    rintro e w7 ⟨rfl, hbl⟩
    exact hC _ _ hbl fun _ _ => rfl
  · intro a0 w9 K9 hF hB hK hC
    have b2 := hF.base (k := 2) (v := .pointer (some ⟨w.heap.size, 0, none⟩)) (by kernel_rfl) rfl
    clear hF hB hK
    go_simp
    exact hC _ _ (bel_refl _) fun _ _ => rfl
  · intro a0 w9 K9 hF hB hK hC
    obtain ⟨v45, e45, z45⟩ := dep hK 0 (g := .data) (j := 3) (k := 45) rfl rfl rfl
    have z45 : v45 = .pointer (some ⟨w.heap.size, 2, none⟩) := z45
    subst z45
    have x9 : w9.cell? ⟨w.heap.size, 2, none⟩ = some (.slice B (limbs d0).length d) := (CX.out.below hB CX.out.lt).cell 2
    clear hF hB hK
    go_simp
    exact hC _ _ (bel_refl _) fun _ _ => rfl
  · intro a0 w9 K9 hF hB hK hC
    obtain ⟨v46, e46, z46⟩ := dep hK 0 (g := .data) (j := 4) (k := 46) rfl rfl rfl
    have z46 : v46 = .slice B (limbs d0).length d := z46
    subst z46
    have HB9 := Lib.hid hB
    clear hF hB hK
    go_simp
    refine (text_num B d d0 _ (R2.out.below HB9.out) HQ.out.2.1).mono ?_
    rintro e w7 ⟨rfl, hbl⟩
    exact hC _ _ hbl fun _ _ => rfl
  · intro a0 w9 K9 hF hB hK hC
    obtain ⟨v44, e44, z44⟩ := dep hK 0 (g := .data) (j := 2) (k := 44) rfl rfl rfl
    have z44 : v44 = .string (dec n) := z44
    subst z44
    obtain ⟨v47, e47, z47⟩ := dep hK 1 (g := .data) (j := 5) (k := 47) rfl rfl rfl
    have z47 : v47 = .string (dec d0) := z47
    subst z47
    have HB9 := Lib.hid hB
    clear hF hB hK
    go_simp
    exact hC _ _ (bel_refl _) fun _ _ => rfl
  · intro a0 w9 K9 hF hB hK hC
    have b1 := hF.base (k := 1) (v := .int .i64 sz) (by kernel_rfl) rfl
    clear hF hB hK
    go_simp
    exact hC _ _ (bel_refl _) fun _ _ => rfl
  · intro a0 w9 K9 hF hB hK hC
    obtain ⟨v48, e48, z48⟩ := dep hK 0 (g := .data) (j := 6) (k := 48) rfl rfl rfl
    have z48 : v48 = .agg #[.string (dec n), .string (dec d0)] := z48
    subst z48
    obtain ⟨v49, e49, z49⟩ := dep hK 1 (g := .data) (j := 7) (k := 49) rfl rfl rfl
    have z49 : v49 = .int .i64 sz := z49
    subst z49
    have HB9 := Lib.hid hB
    clear hF hB hK
    go_simp
    refine (refNear_fit HF.out n d0 _ HQ.out.1 HQ.out.2.1 HQ.out.2.2.den HC.out HHI.out.1 (by rw [HHI.out.1]; exact HO.out)).mono ?_
    rintro e w7 ⟨rfl, hbl⟩
    exact hC _ _ hbl fun _ _ => rfl
  · intro a0 w9 K9 hF hB hK hC
    have HB9 := Lib.hid hB
    clear hF hB hK
    go_simp
    exact hC _ _ (bel_alloc (bel_refl _) _) fun _ _ => ⟨_, rfl, HB9.out.size, Blk.new _ _ _⟩
  case fin =>
    intro a0 w9 hF hB hK
    have b1 := hF.base (k := 1) (v := .int .i64 sz) (by kernel_rfl) rfl
    have b2 := hF.base (k := 2) (v := .pointer (some ⟨w.heap.size, 0, none⟩)) (by kernel_rfl) rfl
    have b4 := hF.base (k := 4) (v := .bool false) (by kernel_rfl) rfl
    have b5 := hF.base (k := 5) (v := .int .u64 (cc : Int)) (by kernel_rfl) rfl
    have b6 := hF.base (k := 6) (v := .bool ex) (by kernel_rfl) rfl
    have b7 := hF.base (k := 7) (v := .int .i64 0) (by kernel_rfl) rfl
    have hsz := hF.size
    have hdf := hF.defers
    clear hF
    obtain ⟨v8, e8, z8⟩ := known hK 9 (k := 8) (by decide) rfl
    have z8 : ∃ g, v8 = .pointer (some ⟨g, 0, none⟩) ∧ w3.heap.size ≤ g ∧ Blk w9 g 34 #[.int .u64 0, .bool false] := z8
    obtain ⟨gd, rfl, hgd, Zgd⟩ := z8
    obtain ⟨v50, e50, z50⟩ := known hK 8 (k := 50) (by decide) rfl
    have z50 : v50 = .agg #[.int .u64 (cc : Int), .bool ex] := z50
    subst z50
    clear hK
    obtain ⟨⟨l0⟩, df⟩ := a0
    have hs0 : l0.length = 103 := hsz
    clear hsz
    replace hdf : df = _ := hdf
    subst hdf
    obtain ⟨u, rfl⟩ := lits_103 hs0
    clear hs0
    have q1 : u 1 = _ := Option.some.inj b1
    clear b1
    have q2 : u 2 = _ := Option.some.inj b2
    clear b2
    have q4 : u 4 = _ := Option.some.inj b4
    clear b4
    have q5 : u 5 = _ := Option.some.inj b5
    clear b5
    have q6 : u 6 = _ := Option.some.inj b6
    clear b6
    have q7 : u 7 = _ := Option.some.inj b7
    clear b7
    have q8 : u 8 = _ := Option.some.inj e8
    clear e8
    have q50 : u 50 = _ := Option.some.inj e50
    clear e50
    rw [q1, q2, q4, q5, q6, q7, q8, q50]
    clear q1 q2 q4 q5 q6 q7 q8 q50
    have hbl := hB; clear hB
    replace R1 := Lib.hid (R1.out.below hbl)
    replace R2 := Lib.hid (R2.out.below hbl)
    replace CX := Lib.hid (CX.out.below hbl CX.out.lt)
    replace HW := Lib.hid (bel_trans HW.out hbl); clear hbl
    clear CX0 CX1 CX2
    have CX0 : w9.cell? ⟨w.heap.size, 0, none⟩ = some (.bool true) := CX.out.cell 0
    have CX1 : w9.cell? ⟨w.heap.size, 1, none⟩ = some (.slice A (limbs n).length c) := CX.out.cell 1
    have CX2 : w9.cell? ⟨w.heap.size, 2, none⟩ = some (.slice B (limbs d0).length d) := CX.out.cell 2
    simp only [List.drop_succ_cons, List.drop_zero]
    have gl : w.heap.size < gd := by omega
    replace Zgd := Lib.hid Zgd
    have VW := Zgd; clear Zgd
    have xd0 : w9.cell? ⟨gd, 0, none⟩ = some (.int .u64 0) := VW.out.cell 0
    have xf0 : w9.frozen? ⟨gd, 0, none⟩ = false := VW.out.frozen 0
    have xd1 : w9.cell? ⟨gd, 1, none⟩ = some (.bool false) := VW.out.cell 1
    have xf1 : w9.frozen? ⟨gd, 1, none⟩ = false := VW.out.frozen 1
    go_upto_region 6 with fail
    clear xd0 xd1 xf0 xf1
    obtain ⟨wv, hwv⟩ : ∃ wv, wv = ((w9.setCell ⟨gd, 0, none⟩ (.int .u64 (cc : Int))).setCell ⟨gd, 1, none⟩ (.bool ex)) := ⟨_, rfl⟩
    rw [← hwv]
    replace CX := Lib.hid (show Blk wv (w.heap.size) 25 #[.bool true, .slice A (limbs n).length c, .slice B (limbs d0).length d] by rw [hwv]; exact ((CX.out).far (p := ⟨gd, 0, none⟩) (by simp; omega) _).far (p := ⟨gd, 1, none⟩) (by simp; omega) _)
    replace VW := Lib.hid (show Blk wv (gd) 34 #[.int .u64 (cc : Int), .bool ex] by rw [hwv]; exact ((VW.out).put 0 (.int .u64 (cc : Int))).put 1 (.bool ex))
    replace HW := Lib.hid (show Below w.heap.size w wv by rw [hwv]; exact bel_set (p := ⟨gd, 1, none⟩) (bel_set (p := ⟨gd, 0, none⟩) (HW.out) (by show w.heap.size ≤ gd; omega) _) (by show w.heap.size ≤ gd; omega) _)
    clear hwv
    clear CX0 CX1 CX2
    have CX0 : wv.cell? ⟨w.heap.size, 0, none⟩ = some (.bool true) := CX.out.cell 0
    have CX1 : wv.cell? ⟨w.heap.size, 1, none⟩ = some (.slice A (limbs n).length c) := CX.out.cell 1
    have CX2 : wv.cell? ⟨w.heap.size, 2, none⟩ = some (.slice B (limbs d0).length d) := CX.out.cell 2
    refine wp_region_typed 9 (TOf [VIs (.pointer (some ⟨gd, 0, none⟩)),
        VIs (.int .u64 (cc : Int)),
        VIs (.int .i64 sz),
        VIs (.int .u64 (K : Int)),
        VIs (.int .i64 sz),
        VIs (.int .i64 (p : Int)),
        VIs (.int .i64 ((p - 1 : Nat) : Int)),
        VIs (.int .u64 (HI : Int)),
        VIs (.bool false)]) (by kernel_rfl) (by kernel_rfl) (by kernel_rfl) (LiftAll.at_ (.cons (VIs.lift _) (.cons (VIs.lift _) (.cons (VIs.lift _) (.cons (VIs.lift _) (.cons (VIs.lift _) (.cons (VIs.lift _) (.cons (VIs.lift _) (.cons (VIs.lift _) (.cons (VIs.lift _) .nil)))))))))) (steps_all (steps_cons ?_ (steps_cons ?_ (steps_cons ?_ (steps_cons ?_ (steps_cons ?_ (steps_cons ?_ (steps_cons ?_ (steps_cons ?_ (steps_cons ?_ steps_zero)))))))))) ?fin
    · intro a0 w9 K9 hF hB hK hC
      have b8 := hF.base (k := 8) (v := .pointer (some ⟨gd, 0, none⟩)) (by kernel_rfl) rfl
      clear hF hB hK
      go_simp
      exact hC _ _ (bel_refl _) fun _ _ => rfl
    · intro a0 w9 K9 hF hB hK hC
      obtain ⟨v51, e51, z51⟩ := dep hK 0 (g := .data) (j := 0) (k := 51) rfl rfl rfl
      have z51 : v51 = .pointer (some ⟨gd, 0, none⟩) := z51
      subst z51
      have x9 : w9.cell? ⟨gd, 0, none⟩ = some (.int .u64 (cc : Int)) := (VW.out.below hB VW.out.lt).cell 0
      clear hF hB hK
      go_simp
      exact hC _ _ (bel_refl _) fun _ _ => rfl
    · intro a0 w9 K9 hF hB hK hC
      have b1 := hF.base (k := 1) (v := .int .i64 sz) (by kernel_rfl) rfl
      clear hF hB hK
      go_simp
      exact hC _ _ (bel_refl _) fun _ _ => rfl
    · intro a0 w9 K9 hF hB hK hC
      obtain ⟨v53, e53, z53⟩ := dep hK 0 (g := .data) (j := 2) (k := 53) rfl rfl rfl
      have z53 : v53 = .int .i64 sz := z53
      subst z53
      have HB9 := Lib.hid hB
      clear hF hB hK
      go_simp
      refine (refHigh_is HF.out _ HHI.out.2).mono ?_
      rintro e w7 ⟨rfl, hbl⟩
      exact hC _ _ hbl fun _ _ => rfl
    · intro a0 w9 K9 hF hB hK hC
      have b1 := hF.base (k := 1) (v := .int .i64 sz) (by kernel_rfl) rfl
      clear hF hB hK
      go_simp
      exact hC _ _ (bel_refl _) fun _ _ => rfl
    · intro a0 w9 K9 hF hB hK hC
      obtain ⟨v55, e55, z55⟩ := dep hK 0 (g := .data) (j := 4) (k := 55) rfl rfl rfl
      have z55 : v55 = .int .i64 sz := z55
      subst z55
      have HB9 := Lib.hid hB
      clear hF hB hK
      go_simp
      refine (refMant_any HF.out _).mono ?_
      rintro e w7 ⟨rfl, hbl⟩
      exact hC _ _ hbl fun _ _ => rfl
    · intro a0 w9 K9 hF hB hK hC
      obtain ⟨v56, e56, z56⟩ := dep hK 0 (g := .data) (j := 5) (k := 56) rfl rfl rfl
      have z56 : v56 = .int .i64 (p : Int) := z56
      subst z56
      have HB9 := Lib.hid hB
      clear hF hB hK
      go_simp
      exact hC _ _ (bel_refl _) fun _ _ => rfl
    · intro a0 w9 K9 hF hB hK hC
      obtain ⟨v54, e54, z54⟩ := dep hK 0 (g := .data) (j := 3) (k := 54) rfl rfl rfl
      have z54 : v54 = .int .u64 (K : Int) := z54
      subst z54
      obtain ⟨v57, e57, z57⟩ := dep hK 1 (g := .data) (j := 6) (k := 57) rfl rfl rfl
      have z57 : v57 = .int .i64 ((p - 1 : Nat) : Int) := z57
      subst z57
      have HB9 := Lib.hid hB
      clear hF hB hK
      go_simp
      exact hC _ _ (bel_refl _) fun _ _ => rfl
    · intro a0 w9 K9 hF hB hK hC
      obtain ⟨v52, e52, z52⟩ := dep hK 0 (g := .data) (j := 1) (k := 52) rfl rfl rfl
      have z52 : v52 = .int .u64 (cc : Int) := z52
      subst z52
      obtain ⟨v58, e58, z58⟩ := dep hK 1 (g := .data) (j := 7) (k := 58) rfl rfl rfl
      have z58 : v58 = .int .u64 (HI : Int) := z58
      subst z58
      have HB9 := Lib.hid hB
      clear hF hB hK
      go_simp
      exact hC _ _ (bel_refl _) fun _ _ => rfl
    case fin =>
      intro a0 w9 hF hB hK
      have b1 := hF.base (k := 1) (v := .int .i64 sz) (by kernel_rfl) rfl
      have b2 := hF.base (k := 2) (v := .pointer (some ⟨w.heap.size, 0, none⟩)) (by kernel_rfl) rfl
      have b4 := hF.base (k := 4) (v := .bool false) (by kernel_rfl) rfl
      have b5 := hF.base (k := 5) (v := .int .u64 (cc : Int)) (by kernel_rfl) rfl
      have b6 := hF.base (k := 6) (v := .bool ex) (by kernel_rfl) rfl
      have b7 := hF.base (k := 7) (v := .int .i64 0) (by kernel_rfl) rfl
      have b8 := hF.base (k := 8) (v := .pointer (some ⟨gd, 0, none⟩)) (by kernel_rfl) rfl
      have hsz := hF.size
      have hdf := hF.defers
      clear hF
      obtain ⟨v59, e59, z59⟩ := known hK 8 (k := 59) (by decide) rfl
      have z59 : v59 = .bool false := z59
      subst z59
      clear hK
      obtain ⟨⟨l0⟩, df⟩ := a0
      have hs0 : l0.length = 103 := hsz
      clear hsz
      replace hdf : df = _ := hdf
      subst hdf
      obtain ⟨u, rfl⟩ := lits_103 hs0
      clear hs0
      have q1 : u 1 = _ := Option.some.inj b1
      clear b1
      have q2 : u 2 = _ := Option.some.inj b2
      clear b2
      have q4 : u 4 = _ := Option.some.inj b4
      clear b4
      have q5 : u 5 = _ := Option.some.inj b5
      clear b5
      have q6 : u 6 = _ := Option.some.inj b6
      clear b6
      have q7 : u 7 = _ := Option.some.inj b7
      clear b7
      have q8 : u 8 = _ := Option.some.inj b8
      clear b8
      have q59 : u 59 = _ := Option.some.inj e59
      clear e59
      rw [q1, q2, q4, q5, q6, q7, q8, q59]
      clear q1 q2 q4 q5 q6 q7 q8 q59
      have hbl := hB; clear hB
      replace CX := Lib.hid (CX.out.below hbl CX.out.lt)
      replace VW := Lib.hid (VW.out.below hbl VW.out.lt)
      replace HW := Lib.hid (bel_trans HW.out hbl); clear hbl
      clear CX0 CX1 CX2
      have CX0 : w9.cell? ⟨w.heap.size, 0, none⟩ = some (.bool true) := CX.out.cell 0
      have CX1 : w9.cell? ⟨w.heap.size, 1, none⟩ = some (.slice A (limbs n).length c) := CX.out.cell 1
      have CX2 : w9.cell? ⟨w.heap.size, 2, none⟩ = some (.slice B (limbs d0).length d) := CX.out.cell 2
      refine wpList_nil ?_
      clear CX0 CX1 CX2
      have CX0 : w9.cell? ⟨w.heap.size, 0, none⟩ = some (.bool true) := CX.out.cell 0
      have CX1 : w9.cell? ⟨w.heap.size, 1, none⟩ = some (.slice A (limbs n).length c) := CX.out.cell 1
      have CX2 : w9.cell? ⟨w.heap.size, 2, none⟩ = some (.slice B (limbs d0).length d) := CX.out.cell 2
      have VW0 : w9.cell? ⟨gd, 0, none⟩ = some (.int .u64 (cc : Int)) := VW.out.cell 0
      have VW1 : w9.cell? ⟨gd, 1, none⟩ = some (.bool ex) := VW.out.cell 1
      go_wp2_with fail
      refine (alive3 _).mono ?_
      rintro e w4 ⟨rfl, hbl⟩
      replace CX := Lib.hid (CX.out.below hbl CX.out.lt)
      replace VW := Lib.hid (VW.out.below hbl VW.out.lt)
      replace HW := Lib.hid (bel_trans HW.out hbl); clear hbl
      clear CX0 CX1 CX2 VW0 VW1
      have CX0 : w4.cell? ⟨w.heap.size, 0, none⟩ = some (.bool true) := CX.out.cell 0
      have CX1 : w4.cell? ⟨w.heap.size, 1, none⟩ = some (.slice A (limbs n).length c) := CX.out.cell 1
      have CX2 : w4.cell? ⟨w.heap.size, 2, none⟩ = some (.slice B (limbs d0).length d) := CX.out.cell 2
      have VW0 : w4.cell? ⟨gd, 0, none⟩ = some (.int .u64 (cc : Int)) := VW.out.cell 0
      have VW1 : w4.cell? ⟨gd, 1, none⟩ = some (.bool ex) := VW.out.cell 1
      go_wp2
      go_ret
      exact ⟨rfl, HW.out⟩

set_option maxRecDepth 100000 in
set_option maxHeartbeats 1000000 in
theorem near_neg_t (A B : Option Addr) (c d : Nat) (x0 y0 : List Nat) (n d0 : Nat) (sz : Int) (p q t cc : Nat) (ex : Bool) (w : World) (h1 : RdL w A x0) (h2 : RdL w B y0) (k1 : x0.length ≤ c) (k2 : y0.length ≤ d) (m1 : Lim x0) (m2 : Lim y0) (hf : Fm sz p q t) (z1 : (sz != 32) = true) (z2 : (sz != 64) = false) (hn : n < Top) (hd : d0 < Top) (hq : QR ⟨true, n, d0⟩) (hC : Code p q n d0 cc ex) (ho : ¬ (t + q + 2) * 2 ^ (p - 1) ≤ cc) (hz : cc ≠ 0) (e1 : few x0 = (limbs n)) (e2 : few y0 = (limbs d0)) :
    Calls Try.prog 3 #[.agg #[.bool true, .slice A x0.length c, .slice B y0.length d], .int .i64 sz] w (RetT w) := by
  obtain ⟨op1, op2, oq0, oq, ot, os1, os2⟩ := hf.ok
  have HF := Lib.hid hf; clear hf
  have HQ := Lib.hid (And.intro hn (And.intro hd hq)); clear hn hd hq
  have HR := Lib.hid ((rightB_q (s := true) HQ.out.1 HQ.out.2.1).2 HQ.out.2.2)
  have HC := Lib.hid hC; clear hC
  obtain ⟨HI, hHI⟩ : ∃ HI, HI = (t + q + 2) * 2 ^ (p - 1) := ⟨_, rfl⟩
  obtain ⟨K, hK⟩ : ∃ K, K = t + q + 2 := ⟨_, rfl⟩
  obtain ⟨H, hH⟩ : ∃ H, H = 2 ^ (p - 1) := ⟨_, rfl⟩
  have hH1 : H ≤ 4503599627370496 := by rw [hH]; exact Nat.pow_le_pow_right (n := 2) (j := 52) (by decide) (by omega)
  have hHI2 : HI ≤ 2047 * 4503599627370496 := by rw [hHI, ← hH]; exact Nat.mul_le_mul (by omega) hH1
  have s0 : IntKind.i64.wrap ((p : Int) - 1) = ((p - 1 : Nat) : Int) := by rw [IntKind.wrap_i64]; omega
  have hmin : min (p - 1) 64 = p - 1 := by omega
  have s3 : (2 : Int) ^ (p - 1) = (H : Int) := by rw [hH, Int.natCast_pow]; rfl
  have s1 : (K : Int) * (H : Int) = (HI : Int) := by rw [hHI, ← hH, ← hK, Int.natCast_mul]
  have s2 : IntKind.u64.wrap (HI : Int) = (HI : Int) := by rw [IntKind.wrap_u64]; omega
  have hne : cc ≠ HI := by rw [hHI]; intro h; exact ho (Nat.le_of_eq h.symm)
  have s4 : ((cc : Int) == (HI : Int)) = false := by simp only [beq_eq_false_iff_ne, ne_eq]; omega
  clear hne
  obtain ⟨z, hz3⟩ : ∃ z : Nat, sz = (z : Int) + 1 := ⟨sz.toNat - 1, by omega⟩
  have hlt : cc < 2 ^ z := fit_code HF.out hz3 ho
  obtain ⟨G, hG⟩ : ∃ G, G = 2 ^ (sz.toNat - 1) := ⟨_, rfl⟩
  have g1 := or_high hlt (by omega) (show G = 2 ^ z by rw [hG]; congr 1; omega)
  obtain ⟨U, hU⟩ : ∃ U, sgn true sz cc = U := ⟨_, rfl⟩
  have hUc : U = cc + G := by rw [← hU, hG]; unfold sgn; rw [if_pos ⟨rfl, hz⟩]
  rw [← hUc] at g1
  have HU := Lib.hid (And.intro hU (And.intro hUc hG)); clear hU hUc hG hlt hz3
  have c1 : ((cc : Int) != 0) = true := by simp [hz]
  clear hz
  have HO := Lib.hid ho; clear ho
  have HHI := Lib.hid (And.intro hHI hK); clear hHI hK hH hH1 hHI2
  have R1 := Lib.hid (show RdL w A (limbs n) by rw [← e1]; exact h1.take 18); clear h1
  have R2 := Lib.hid (show RdL w B (limbs d0) by rw [← e2]; exact h2.take 18); clear h2
  have L18 := Lib.hid (show (limbs n).length ≤ 18 ∧ (limbs d0).length ≤ 18 by rw [← e1, ← e2]; exact ⟨few_le _, few_le _⟩)
  have KC := Lib.hid (show (limbs n).length ≤ c ∧ (limbs d0).length ≤ d by rw [← e1, ← e2]; exact ⟨Nat.le_trans (few_short _) k1, Nat.le_trans (few_short _) k2⟩)
  have M := Lib.hid (show Lim (limbs n) ∧ Lim (limbs d0) by rw [← e1, ← e2]; exact ⟨few_lim m1, few_lim m2⟩); clear m1 m2
  have F := Lib.hid (And.intro k1 (And.intro k2 (And.intro e1 e2))); clear k1 k2 e1 e2
  obtain ⟨wa, hwa⟩ : ∃ wa, wa = w.alloc (.cells #[.bool true, .slice A x0.length c, .slice B y0.length d] 25) := ⟨_, rfl⟩
  have hbl : Below w.heap.size w wa := by rw [hwa]; exact bel_alloc (bel_refl _) _
  have CX : Blk wa (w.heap.size) 25 #[.bool true, .slice A x0.length c, .slice B y0.length d] := by
    have hz := Blk.new (w) 25 #[.bool true, .slice A x0.length c, .slice B y0.length d]
    rw [hwa]
    exact hz
  replace R1 := Lib.hid (R1.out.below hbl)
  replace R2 := Lib.hid (R2.out.below hbl)
  have HW := Lib.hid hbl; clear hbl
  replace CX := Lib.hid CX
  go_enter Try.func3, Try.ntmps3
  go_wp2_with fail
  rw [← hwa]
  clear hwa
  have CX0 : wa.cell? ⟨w.heap.size, 0, none⟩ = some (.bool true) := CX.out.cell 0
  have CX1 : wa.cell? ⟨w.heap.size, 1, none⟩ = some (.slice A x0.length c) := CX.out.cell 1
  have CX2 : wa.cell? ⟨w.heap.size, 2, none⟩ = some (.slice B y0.length d) := CX.out.cell 2
  refine (few3_is true A B c d x0 y0 (limbs n) (limbs d0) _ F.out.1 F.out.2.1 F.out.2.2.1 F.out.2.2.2).mono ?_
  rintro e w1 ⟨rfl, hbl⟩
  replace R1 := Lib.hid (R1.out.below hbl)
  replace R2 := Lib.hid (R2.out.below hbl)
  replace CX := Lib.hid (CX.out.below hbl CX.out.lt)
  replace HW := Lib.hid (bel_trans HW.out hbl); clear hbl
  clear CX0 CX1 CX2
  have CX0 : w1.cell? ⟨w.heap.size, 0, none⟩ = some (.bool true) := CX.out.cell 0
  have CX1 : w1.cell? ⟨w.heap.size, 1, none⟩ = some (.slice A x0.length c) := CX.out.cell 1
  have CX2 : w1.cell? ⟨w.heap.size, 2, none⟩ = some (.slice B y0.length d) := CX.out.cell 2
  have pd0 := CX.out.cell 0
  have pf0 := CX.out.frozen 0
  have pd1 := CX.out.cell 1
  have pf1 := CX.out.frozen 1
  have pd2 := CX.out.cell 2
  have pf2 := CX.out.frozen 2
  go_upto_region 2 with fail
  clear pd0 pf0 pd1 pf1 pd2 pf2
  obtain ⟨wf, hwf⟩ : ∃ wf, wf = (((w1.setCell ⟨w.heap.size, 0, none⟩ (.bool true)).setCell ⟨w.heap.size, 1, none⟩ (.slice A (limbs n).length c)).setCell ⟨w.heap.size, 2, none⟩ (.slice B (limbs d0).length d)) := ⟨_, rfl⟩
  rw [← hwf]
  replace R1 := Lib.hid (show RdL wf _ _ by rw [hwf]; exact RdL.set3 (CX.out) (R1.out) _ _ _)
  replace R2 := Lib.hid (show RdL wf _ _ by rw [hwf]; exact RdL.set3 (CX.out) (R2.out) _ _ _)
  have CX_ := Lib.hid (show Blk wf (w.heap.size) 25 #[.bool true, .slice A (limbs n).length c, .slice B (limbs d0).length d] by rw [hwf]; exact (((CX.out).put 0 (.bool true)).put 1 (.slice A (limbs n).length c)).put 2 (.slice B (limbs d0).length d))
  replace CX := CX_; clear CX_
  replace HW := Lib.hid (show Below w.heap.size w wf by rw [hwf]; exact bel_set (p := ⟨w.heap.size, 2, none⟩) (bel_set (p := ⟨w.heap.size, 1, none⟩) (bel_set (p := ⟨w.heap.size, 0, none⟩) (HW.out) (by show w.heap.size ≤ w.heap.size; omega) _) (by show w.heap.size ≤ w.heap.size; omega) _) (by show w.heap.size ≤ w.heap.size; omega) _)
  clear hwf
  clear CX0 CX1 CX2
  have CX0 : wf.cell? ⟨w.heap.size, 0, none⟩ = some (.bool true) := CX.out.cell 0
  have CX1 : wf.cell? ⟨w.heap.size, 1, none⟩ = some (.slice A (limbs n).length c) := CX.out.cell 1
  have CX2 : wf.cell? ⟨w.heap.size, 2, none⟩ = some (.slice B (limbs d0).length d) := CX.out.cell 2
  go_wp2_with fail
  refine (rbits_fit true A B c d n d0 sz p q t _ R1.out R2.out KC.out.1 KC.out.2 HQ.out.1 HQ.out.2.1 HQ.out.2.2 HF.out HC.out HO.out HU.out.1).mono ?_
  rintro e w2 ⟨rfl, hbl⟩
  replace R1 := Lib.hid (R1.out.below hbl)
  replace R2 := Lib.hid (R2.out.below hbl)
  replace CX := Lib.hid (CX.out.below hbl CX.out.lt)
  replace HW := Lib.hid (bel_trans HW.out hbl); clear hbl
  clear CX0 CX1 CX2
  have CX0 : w2.cell? ⟨w.heap.size, 0, none⟩ = some (.bool true) := CX.out.cell 0
  have CX1 : w2.cell? ⟨w.heap.size, 1, none⟩ = some (.slice A (limbs n).length c) := CX.out.cell 1
  have CX2 : w2.cell? ⟨w.heap.size, 2, none⟩ = some (.slice B (limbs d0).length d) := CX.out.cell 2
  go_wp2_with fail
  refine (refRatRight_is true A B c d (limbs n) (limbs d0) _ R1.out R2.out M.out.1 M.out.2 L18.out.1 L18.out.2 HR.out).mono ?_
  rintro e w3 ⟨rfl, hbl⟩
  replace R1 := Lib.hid (R1.out.below hbl)
  replace R2 := Lib.hid (R2.out.below hbl)
  replace CX := Lib.hid (CX.out.below hbl CX.out.lt)
  replace HW := Lib.hid (bel_trans HW.out hbl); clear hbl
  clear CX0 CX1 CX2
  have CX0 : w3.cell? ⟨w.heap.size, 0, none⟩ = some (.bool true) := CX.out.cell 0
  have CX1 : w3.cell? ⟨w.heap.size, 1, none⟩ = some (.slice A (limbs n).length c) := CX.out.cell 1
  have CX2 : w3.cell? ⟨w.heap.size, 2, none⟩ = some (.slice B (limbs d0).length d) := CX.out.cell 2
  go_upto_region 5 with fail
  have hsz0 : w.heap.size < w3.heap.size := CX.out.lt
  refine wp_region_typed 10 (TOf [VIs (.pointer (some ⟨w.heap.size, 1, none⟩)),
      VIs (.slice A (limbs n).length c),
      VIs (.string (dec n)),
      VIs (.pointer (some ⟨w.heap.size, 2, none⟩)),
      VIs (.slice B (limbs d0).length d),
      VIs (.string (dec d0)),
      VIs (.agg #[.string (dec n), .string (dec d0)]),
      VIs (.int .i64 sz),
      VIs (.agg #[.int .u64 (cc : Int), .bool ex]),
      VNewF w3.heap.size 34 #[.int .u64 0, .bool false]]) (by kernel_rfl) (by kernel_rfl) (by kernel_rfl) (LiftAll.at_ (.cons (VIs.lift _) (.cons (VIs.lift _) (.cons (VIs.lift _) (.cons (VIs.lift _) (.cons (VIs.lift _) (.cons (VIs.lift _) (.cons (VIs.lift _) (.cons (VIs.lift _) (.cons (VIs.lift _) (.cons (VNewF.lift _ _ _) .nil))))))))))) (steps_all (steps_cons ?_ (steps_cons ?_ (steps_cons ?_ (steps_cons ?_ (steps_cons ?_ (steps_cons ?_ (steps_cons ?_ (steps_cons ?_ (steps_cons ?_ (steps_cons ?_ steps_zero))))))))))) ?fin
  · intro a0 w9 K9 hF hB hK hC
    have b2 := hF.base (k := 2) (v := .pointer (some ⟨w.heap.size, 0, none⟩)) (by kernel_rfl) rfl
    clear hF hB hK
    go_simp
    exact hC _ _ (bel_refl _) fun _ _ => rfl
  · intro a0 w9 K9 hF hB hK hC
    obtain ⟨v42, e42, z42⟩ := dep hK 0 (g := .data) (j := 0) (k := 42) rfl rfl rfl
    have z42 : v42 = .pointer (some ⟨w.heap.size, 1, none⟩) := z42
    subst z42
    have x9 : w9.cell? ⟨w.heap.size, 1, none⟩ = some (.slice A (limbs n).length c) := (CX.out.below hB CX.out.lt).cell 1
    clear hF hB hK
    go_simp
    exact hC _ _ (bel_refl _) fun _ _ => rfl
  · intro a0 w9 K9 hF hB hK hC
    obtain ⟨v43, e43, z43⟩ := dep hK 0 (g := .data) (j := 1) (k := 43) rfl rfl rfl
    have z43 : v43 = .slice A (limbs n).length c := z43
    subst z43
    have HB9 := Lib.hid hB
    clear hF hB hK
    go_simp
    refine (text_num A c n _ (R1.out.below HB9.out) HQ.out.1).mono ?_
    rintro e w7 ⟨rfl, hbl⟩
    exact hC _ _ hbl fun _ _ => rfl
  · intro a0 w9 K9 hF hB hK hC
    have b2 := hF.base (k := 2) (v := .pointer (some ⟨w.heap.size, 0, none⟩)) (by kernel_rfl) rfl
    clear hF hB hK
    go_simp
    exact hC _ _ (bel_refl _) fun _ _ => rfl
  · intro a0 w9 K9 hF hB hK hC
    obtain ⟨v45, e45, z45⟩ := dep hK 0 (g := .data) (j := 3) (k := 45) rfl rfl rfl
    have z45 : v45 = .pointer (some ⟨w.heap.size, 2, none⟩) := z45
    subst z45
    have x9 : w9.cell? ⟨w.heap.size, 2, none⟩ = some (.slice B (limbs d0).length d) := (CX.out.below hB CX.out.lt).cell 2
    clear hF hB hK
    go_simp
    exact hC _ _ (bel_refl _) fun _ _ => rfl
  · intro a0 w9 K9 hF hB hK hC
    obtain ⟨v46, e46, z46⟩ := dep hK 0 (g := .data) (j := 4) (k := 46) rfl rfl rfl
    have z46 : v46 = .slice B (limbs d0).length d := z46
    subst z46
    have HB9 := Lib.hid hB
    clear hF hB hK
    go_simp
    refine (text_num B d d0 _ (R2.out.below HB9.out) HQ.out.2.1).mono ?_
    rintro e w7 ⟨rfl, hbl⟩
    exact hC _ _ hbl fun _ _ => rfl
  · intro a0 w9 K9 hF hB hK hC
    obtain ⟨v44, e44, z44⟩ := dep hK 0 (g := .data) (j := 2) (k := 44) rfl rfl rfl
    have z44 : v44 = .string (dec n) := z44
    subst z44
    obtain ⟨v47, e47, z47⟩ := dep hK 1 (g := .data) (j := 5) (k := 47) rfl rfl rfl
    have z47 : v47 = .string (dec d0) := z47
    subst z47
    have HB9 := Lib.hid hB
    clear hF hB hK
    go_simp
    exact hC _ _ (bel_refl _) fun _ _ => rfl
  · intro a0 w9 K9 hF hB hK hC
    have b1 := hF.base (k := 1) (v := .int .i64 sz) (by kernel_rfl) rfl
    clear hF hB hK
    go_simp
    exact hC _ _ (bel_refl _) fun _ _ => rfl
  · intro a0 w9 K9 hF hB hK hC
    obtain ⟨v48, e48, z48⟩ := dep hK 0 (g := .data) (j := 6) (k := 48) rfl rfl rfl
    have z48 : v48 = .agg #[.string (dec n), .string (dec d0)] := z48
    subst z48
    obtain ⟨v49, e49, z49⟩ := dep hK 1 (g := .data) (j := 7) (k := 49) rfl rfl rfl
    have z49 : v49 = .int .i64 sz := z49
    subst z49
    have HB9 := Lib.hid hB
    clear hF hB hK
    go_simp
    refine (refNear_fit HF.out n d0 _ HQ.out.1 HQ.out.2.1 HQ.out.2.2.den HC.out HHI.out.1 (by rw [HHI.out.1]; exact HO.out)).mono ?_
    rintro e w7 ⟨rfl, hbl⟩
    exact hC _ _ hbl fun _ _ => rfl
  · intro a0 w9 K9 hF hB hK hC
    have HB9 := Lib.hid hB
    clear hF hB hK
    go_simp
    exact hC _ _ (bel_alloc (bel_refl _) _) fun _ _ => ⟨_, rfl, HB9.out.size, Blk.new _ _ _⟩
  case fin =>
    intro a0 w9 hF hB hK
    have b1 := hF.base (k := 1) (v := .int .i64 sz) (by kernel_rfl) rfl
    have b2 := hF.base (k := 2) (v := .pointer (some ⟨w.heap.size, 0, none⟩)) (by kernel_rfl) rfl
    have b4 := hF.base (k := 4) (v := .bool false) (by kernel_rfl) rfl
    have b5 := hF.base (k := 5) (v := .int .u64 (U : Int)) (by kernel_rfl) rfl
    have b6 := hF.base (k := 6) (v := .bool ex) (by kernel_rfl) rfl
    have b7 := hF.base (k := 7) (v := .int .i64 0) (by kernel_rfl) rfl
    have hsz := hF.size
    have hdf := hF.defers
    clear hF
    obtain ⟨v8, e8, z8⟩ := known hK 9 (k := 8) (by decide) rfl
    have z8 : ∃ g, v8 = .pointer (some ⟨g, 0, none⟩) ∧ w3.heap.size ≤ g ∧ Blk w9 g 34 #[.int .u64 0, .bool false] := z8
    obtain ⟨gd, rfl, hgd, Zgd⟩ := z8
    obtain ⟨v50, e50, z50⟩ := known hK 8 (k := 50) (by decide) rfl
    have z50 : v50 = .agg #[.int .u64 (cc : Int), .bool ex] := z50
    subst z50
    clear hK
    obtain ⟨⟨l0⟩, df⟩ := a0
    have hs0 : l0.length = 103 := hsz
    clear hsz
    replace hdf : df = _ := hdf
    subst hdf
    obtain ⟨u, rfl⟩ := lits_103 hs0
    clear hs0
    have q1 : u 1 = _ := Option.some.inj b1
    clear b1
    have q2 : u 2 = _ := Option.some.inj b2
    clear b2
    have q4 : u 4 = _ := Option.some.inj b4
    clear b4
    have q5 : u 5 = _ := Option.some.inj b5
    clear b5
    have q6 : u 6 = _ := Option.some.inj b6
    clear b6
    have q7 : u 7 = _ := Option.some.inj b7
    clear b7
    have q8 : u 8 = _ := Option.some.inj e8
    clear e8
    have q50 : u 50 = _ := Option.some.inj e50
    clear e50
    rw [q1, q2, q4, q5, q6, q7, q8, q50]
    clear q1 q2 q4 q5 q6 q7 q8 q50
    have hbl := hB; clear hB
    replace R1 := Lib.hid (R1.out.below hbl)
    replace R2 := Lib.hid (R2.out.below hbl)
    replace CX := Lib.hid (CX.out.below hbl CX.out.lt)
    replace HW := Lib.hid (bel_trans HW.out hbl); clear hbl
    clear CX0 CX1 CX2
    have CX0 : w9.cell? ⟨w.heap.size, 0, none⟩ = some (.bool true) := CX.out.cell 0
    have CX1 : w9.cell? ⟨w.heap.size, 1, none⟩ = some (.slice A (limbs n).length c) := CX.out.cell 1
    have CX2 : w9.cell? ⟨w.heap.size, 2, none⟩ = some (.slice B (limbs d0).length d) := CX.out.cell 2
    simp only [List.drop_succ_cons, List.drop_zero]
    have gl : w.heap.size < gd := by omega
    replace Zgd := Lib.hid Zgd
    have VW := Zgd; clear Zgd
    have xd0 : w9.cell? ⟨gd, 0, none⟩ = some (.int .u64 0) := VW.out.cell 0
    have xf0 : w9.frozen? ⟨gd, 0, none⟩ = false := VW.out.frozen 0
    have xd1 : w9.cell? ⟨gd, 1, none⟩ = some (.bool false) := VW.out.cell 1
    have xf1 : w9.frozen? ⟨gd, 1, none⟩ = false := VW.out.frozen 1
    go_upto_region 6 with fail
    clear xd0 xd1 xf0 xf1
    obtain ⟨wv, hwv⟩ : ∃ wv, wv = ((w9.setCell ⟨gd, 0, none⟩ (.int .u64 (cc : Int))).setCell ⟨gd, 1, none⟩ (.bool ex)) := ⟨_, rfl⟩
    rw [← hwv]
    replace CX := Lib.hid (show Blk wv (w.heap.size) 25 #[.bool true, .slice A (limbs n).length c, .slice B (limbs d0).length d] by rw [hwv]; exact ((CX.out).far (p := ⟨gd, 0, none⟩) (by simp; omega) _).far (p := ⟨gd, 1, none⟩) (by simp; omega) _)
    replace VW := Lib.hid (show Blk wv (gd) 34 #[.int .u64 (cc : Int), .bool ex] by rw [hwv]; exact ((VW.out).put 0 (.int .u64 (cc : Int))).put 1 (.bool ex))
    replace HW := Lib.hid (show Below w.heap.size w wv by rw [hwv]; exact bel_set (p := ⟨gd, 1, none⟩) (bel_set (p := ⟨gd, 0, none⟩) (HW.out) (by show w.heap.size ≤ gd; omega) _) (by show w.heap.size ≤ gd; omega) _)
    clear hwv
    clear CX0 CX1 CX2
    have CX0 : wv.cell? ⟨w.heap.size, 0, none⟩ = some (.bool true) := CX.out.cell 0
    have CX1 : wv.cell? ⟨w.heap.size, 1, none⟩ = some (.slice A (limbs n).length c) := CX.out.cell 1
    have CX2 : wv.cell? ⟨w.heap.size, 2, none⟩ = some (.slice B (limbs d0).length d) := CX.out.cell 2
    refine wp_region_typed 9 (TOf [VIs (.pointer (some ⟨gd, 0, none⟩)),
        VIs (.int .u64 (cc : Int)),
        VIs (.int .i64 sz),
        VIs (.int .u64 (K : Int)),
        VIs (.int .i64 sz),
        VIs (.int .i64 (p : Int)),
        VIs (.int .i64 ((p - 1 : Nat) : Int)),
        VIs (.int .u64 (HI : Int)),
        VIs (.bool false)]) (by kernel_rfl) (by kernel_rfl) (by kernel_rfl) (LiftAll.at_ (.cons (VIs.lift _) (.cons (VIs.lift _) (.cons (VIs.lift _) (.cons (VIs.lift _) (.cons (VIs.lift _) (.cons (VIs.lift _) (.cons (VIs.lift _) (.cons (VIs.lift _) (.cons (VIs.lift _) .nil)))))))))) (steps_all (steps_cons ?_ (steps_cons ?_ (steps_cons ?_ (steps_cons ?_ (steps_cons ?_ (steps_cons ?_ (steps_cons ?_ (steps_cons ?_ (steps_cons ?_ steps_zero)))))))))) ?fin
    · intro a0 w9 K9 hF hB hK hC
      have b8 := hF.base (k := 8) (v := .pointer (some ⟨gd, 0, none⟩)) (by kernel_rfl) rfl
      clear hF hB hK
      go_simp
      exact hC _ _ (bel_refl _) fun _ _ => rfl
    · intro a0 w9 K9 hF hB hK hC
      obtain ⟨v51, e51, z51⟩ := dep hK 0 (g := .data) (j := 0) (k := 51) rfl rfl rfl
      have z51 : v51 = .pointer (some ⟨gd, 0, none⟩) := z51
      subst z51
      have x9 : w9.cell? ⟨gd, 0, none⟩ = some (.int .u64 (cc : Int)) := (VW.out.below hB VW.out.lt).cell 0
      clear hF hB hK
      go_simp
      exact hC _ _ (bel_refl _) fun _ _ => rfl
    · intro a0 w9 K9 hF hB hK hC
      have b1 := hF.base (k := 1) (v := .int .i64 sz) (by kernel_rfl) rfl
      clear hF hB hK
      go_simp
      exact hC _ _ (bel_refl _) fun _ _ => rfl
    · intro a0 w9 K9 hF hB hK hC
      obtain ⟨v53, e53, z53⟩ := dep hK 0 (g := .data) (j := 2) (k := 53) rfl rfl rfl
      have z53 : v53 = .int .i64 sz := z53
      subst z53
      have HB9 := Lib.hid hB
      clear hF hB hK
      go_simp
      refine (refHigh_is HF.out _ HHI.out.2).mono ?_
      rintro e w7 ⟨rfl, hbl⟩
      exact hC _ _ hbl fun _ _ => rfl
    · intro a0 w9 K9 hF hB hK hC
      have b1 := hF.base (k := 1) (v := .int .i64 sz) (by kernel_rfl) rfl
      clear hF hB hK
      go_simp
      exact hC _ _ (bel_refl _) fun _ _ => rfl
    · intro a0 w9 K9 hF hB hK hC
      obtain ⟨v55, e55, z55⟩ := dep hK 0 (g := .data) (j := 4) (k := 55) rfl rfl rfl
      have z55 : v55 = .int .i64 sz := z55
      subst z55
      have HB9 := Lib.hid hB
      clear hF hB hK
      go_simp
      refine (refMant_any HF.out _).mono ?_
      rintro e w7 ⟨rfl, hbl⟩
      exact hC _ _ hbl fun _ _ => rfl
    · intro a0 w9 K9 hF hB hK hC
      obtain ⟨v56, e56, z56⟩ := dep hK 0 (g := .data) (j := 5) (k := 56) rfl rfl rfl
      have z56 : v56 = .int .i64 (p : Int) := z56
      subst z56
      have HB9 := Lib.hid hB
      clear hF hB hK
      go_simp
      exact hC _ _ (bel_refl _) fun _ _ => rfl
    · intro a0 w9 K9 hF hB hK hC
      obtain ⟨v54, e54, z54⟩ := dep hK 0 (g := .data) (j := 3) (k := 54) rfl rfl rfl
      have z54 : v54 = .int .u64 (K : Int) := z54
      subst z54
      obtain ⟨v57, e57, z57⟩ := dep hK 1 (g := .data) (j := 6) (k := 57) rfl rfl rfl
      have z57 : v57 = .int .i64 ((p - 1 : Nat) : Int) := z57
      subst z57
      have HB9 := Lib.hid hB
      clear hF hB hK
      go_simp
      exact hC _ _ (bel_refl _) fun _ _ => rfl
    · intro a0 w9 K9 hF hB hK hC
      obtain ⟨v52, e52, z52⟩ := dep hK 0 (g := .data) (j := 1) (k := 52) rfl rfl rfl
      have z52 : v52 = .int .u64 (cc : Int) := z52
      subst z52
      obtain ⟨v58, e58, z58⟩ := dep hK 1 (g := .data) (j := 7) (k := 58) rfl rfl rfl
      have z58 : v58 = .int .u64 (HI : Int) := z58
      subst z58
      have HB9 := Lib.hid hB
      clear hF hB hK
      go_simp
      exact hC _ _ (bel_refl _) fun _ _ => rfl
    case fin =>
      intro a0 w9 hF hB hK
      have b1 := hF.base (k := 1) (v := .int .i64 sz) (by kernel_rfl) rfl
      have b2 := hF.base (k := 2) (v := .pointer (some ⟨w.heap.size, 0, none⟩)) (by kernel_rfl) rfl
      have b4 := hF.base (k := 4) (v := .bool false) (by kernel_rfl) rfl
      have b5 := hF.base (k := 5) (v := .int .u64 (U : Int)) (by kernel_rfl) rfl
      have b6 := hF.base (k := 6) (v := .bool ex) (by kernel_rfl) rfl
      have b7 := hF.base (k := 7) (v := .int .i64 0) (by kernel_rfl) rfl
      have b8 := hF.base (k := 8) (v := .pointer (some ⟨gd, 0, none⟩)) (by kernel_rfl) rfl
      have hsz := hF.size
      have hdf := hF.defers
      clear hF
      obtain ⟨v59, e59, z59⟩ := known hK 8 (k := 59) (by decide) rfl
      have z59 : v59 = .bool false := z59
      subst z59
      clear hK
      obtain ⟨⟨l0⟩, df⟩ := a0
      have hs0 : l0.length = 103 := hsz
      clear hsz
      replace hdf : df = _ := hdf
      subst hdf
      obtain ⟨u, rfl⟩ := lits_103 hs0
      clear hs0
      have q1 : u 1 = _ := Option.some.inj b1
      clear b1
      have q2 : u 2 = _ := Option.some.inj b2
      clear b2
      have q4 : u 4 = _ := Option.some.inj b4
      clear b4
      have q5 : u 5 = _ := Option.some.inj b5
      clear b5
      have q6 : u 6 = _ := Option.some.inj b6
      clear b6
      have q7 : u 7 = _ := Option.some.inj b7
      clear b7
      have q8 : u 8 = _ := Option.some.inj b8
      clear b8
      have q59 : u 59 = _ := Option.some.inj e59
      clear e59
      rw [q1, q2, q4, q5, q6, q7, q8, q59]
      clear q1 q2 q4 q5 q6 q7 q8 q59
      have hbl := hB; clear hB
      replace CX := Lib.hid (CX.out.below hbl CX.out.lt)
      replace VW := Lib.hid (VW.out.below hbl VW.out.lt)
      replace HW := Lib.hid (bel_trans HW.out hbl); clear hbl
      clear CX0 CX1 CX2
      have CX0 : w9.cell? ⟨w.heap.size, 0, none⟩ = some (.bool true) := CX.out.cell 0
      have CX1 : w9.cell? ⟨w.heap.size, 1, none⟩ = some (.slice A (limbs n).length c) := CX.out.cell 1
      have CX2 : w9.cell? ⟨w.heap.size, 2, none⟩ = some (.slice B (limbs d0).length d) := CX.out.cell 2
      refine wpList_nil ?_
      clear CX0 CX1 CX2
      have CX0 : w9.cell? ⟨w.heap.size, 0, none⟩ = some (.bool true) := CX.out.cell 0
      have CX1 : w9.cell? ⟨w.heap.size, 1, none⟩ = some (.slice A (limbs n).length c) := CX.out.cell 1
      have CX2 : w9.cell? ⟨w.heap.size, 2, none⟩ = some (.slice B (limbs d0).length d) := CX.out.cell 2
      have VW0 : w9.cell? ⟨gd, 0, none⟩ = some (.int .u64 (cc : Int)) := VW.out.cell 0
      have VW1 : w9.cell? ⟨gd, 1, none⟩ = some (.bool ex) := VW.out.cell 1
      go_upto_region 9 with fail
      refine wp_region_typed 6 (TOf [VIs (.pointer (some ⟨gd, 0, none⟩)),
          VIs (.int .u64 (cc : Int)),
          VIs (.int .i64 sz),
          VIs (.int .u64 (G : Int)),
          VIs (.int .u64 (U : Int)),
          VIs (.pointer (some ⟨gd, 0, none⟩))]) (by kernel_rfl) (by kernel_rfl) (by kernel_rfl) (LiftAll.at_ (.cons (VIs.lift _) (.cons (VIs.lift _) (.cons (VIs.lift _) (.cons (VIs.lift _) (.cons (VIs.lift _) (.cons (VIs.lift _) .nil))))))) (steps_all (steps_cons ?_ (steps_cons ?_ (steps_cons ?_ (steps_cons ?_ (steps_cons ?_ (steps_cons ?_ steps_zero))))))) ?fin
      · intro a0 w9 K9 hF hB hK hC
        have b8 := hF.base (k := 8) (v := .pointer (some ⟨gd, 0, none⟩)) (by kernel_rfl) rfl
        clear hF hB hK
        go_simp
        exact hC _ _ (bel_refl _) fun _ _ => rfl
      · intro a0 w9 K9 hF hB hK hC
        obtain ⟨v80, e80, z80⟩ := dep hK 0 (g := .data) (j := 0) (k := 80) rfl rfl rfl
        have z80 : v80 = .pointer (some ⟨gd, 0, none⟩) := z80
        subst z80
        have x9 : w9.cell? ⟨gd, 0, none⟩ = some (.int .u64 (cc : Int)) := (VW.out.below hB VW.out.lt).cell 0
        clear hF hB hK
        go_simp
        exact hC _ _ (bel_refl _) fun _ _ => rfl
      · intro a0 w9 K9 hF hB hK hC
        have b1 := hF.base (k := 1) (v := .int .i64 sz) (by kernel_rfl) rfl
        clear hF hB hK
        go_simp
        exact hC _ _ (bel_refl _) fun _ _ => rfl
      · intro a0 w9 K9 hF hB hK hC
        obtain ⟨v82, e82, z82⟩ := dep hK 0 (g := .data) (j := 2) (k := 82) rfl rfl rfl
        have z82 : v82 = .int .i64 sz := z82
        subst z82
        have HB9 := Lib.hid hB
        clear hF hB hK
        go_simp
        refine (high3_any HF.out _ HU.out.2.2).mono ?_
        rintro e w7 ⟨rfl, hbl⟩
        exact hC _ _ hbl fun _ _ => rfl
      · intro a0 w9 K9 hF hB hK hC
        obtain ⟨v81, e81, z81⟩ := dep hK 0 (g := .data) (j := 1) (k := 81) rfl rfl rfl
        have z81 : v81 = .int .u64 (cc : Int) := z81
        subst z81
        obtain ⟨v83, e83, z83⟩ := dep hK 1 (g := .data) (j := 3) (k := 83) rfl rfl rfl
        have z83 : v83 = .int .u64 (G : Int) := z83
        subst z83
        have HB9 := Lib.hid hB
        clear hF hB hK
        go_simp
        exact hC _ _ (bel_refl _) fun _ _ => rfl
      · intro a0 w9 K9 hF hB hK hC
        have b8 := hF.base (k := 8) (v := .pointer (some ⟨gd, 0, none⟩)) (by kernel_rfl) rfl
        clear hF hB hK
        go_simp
        exact hC _ _ (bel_refl _) fun _ _ => rfl
      case fin =>
        intro a0 w9 hF hB hK
        have b1 := hF.base (k := 1) (v := .int .i64 sz) (by kernel_rfl) rfl
        have b2 := hF.base (k := 2) (v := .pointer (some ⟨w.heap.size, 0, none⟩)) (by kernel_rfl) rfl
        have b4 := hF.base (k := 4) (v := .bool false) (by kernel_rfl) rfl
        have b5 := hF.base (k := 5) (v := .int .u64 (U : Int)) (by kernel_rfl) rfl
        have b6 := hF.base (k := 6) (v := .bool ex) (by kernel_rfl) rfl
        have b7 := hF.base (k := 7) (v := .int .i64 0) (by kernel_rfl) rfl
        have b8 := hF.base (k := 8) (v := .pointer (some ⟨gd, 0, none⟩)) (by kernel_rfl) rfl
        have hsz := hF.size
        have hdf := hF.defers
        clear hF
        obtain ⟨v84, e84, z84⟩ := known hK 4 (k := 84) (by decide) rfl
        have z84 : v84 = .int .u64 (U : Int) := z84
        subst z84
        obtain ⟨v85, e85, z85⟩ := known hK 5 (k := 85) (by decide) rfl
        have z85 : v85 = .pointer (some ⟨gd, 0, none⟩) := z85
        subst z85
        clear hK
        obtain ⟨⟨l0⟩, df⟩ := a0
        have hs0 : l0.length = 103 := hsz
        clear hsz
        replace hdf : df = _ := hdf
        subst hdf
        obtain ⟨u, rfl⟩ := lits_103 hs0
        clear hs0
        have q1 : u 1 = _ := Option.some.inj b1
        clear b1
        have q2 : u 2 = _ := Option.some.inj b2
        clear b2
        have q4 : u 4 = _ := Option.some.inj b4
        clear b4
        have q5 : u 5 = _ := Option.some.inj b5
        clear b5
        have q6 : u 6 = _ := Option.some.inj b6
        clear b6
        have q7 : u 7 = _ := Option.some.inj b7
        clear b7
        have q8 : u 8 = _ := Option.some.inj b8
        clear b8
        have q84 : u 84 = _ := Option.some.inj e84
        clear e84
        have q85 : u 85 = _ := Option.some.inj e85
        clear e85
        rw [q1, q2, q4, q5, q6, q7, q8, q84, q85]
        clear q1 q2 q4 q5 q6 q7 q8 q84 q85
        have hbl := hB; clear hB
        replace CX := Lib.hid (CX.out.below hbl CX.out.lt)
        replace VW := Lib.hid (VW.out.below hbl VW.out.lt)
        replace HW := Lib.hid (bel_trans HW.out hbl); clear hbl
        clear CX0 CX1 CX2 VW0 VW1
        have CX0 : w9.cell? ⟨w.heap.size, 0, none⟩ = some (.bool true) := CX.out.cell 0
        have CX1 : w9.cell? ⟨w.heap.size, 1, none⟩ = some (.slice A (limbs n).length c) := CX.out.cell 1
        have CX2 : w9.cell? ⟨w.heap.size, 2, none⟩ = some (.slice B (limbs d0).length d) := CX.out.cell 2
        have VW0 : w9.cell? ⟨gd, 0, none⟩ = some (.int .u64 (cc : Int)) := VW.out.cell 0
        have VW1 : w9.cell? ⟨gd, 1, none⟩ = some (.bool ex) := VW.out.cell 1
        simp only [List.drop_succ_cons, List.drop_zero]
        have q0 : w9.cell? ⟨gd, 0, none⟩ = some (.int .u64 (cc : Int)) := VW.out.cell 0
        have f9 : w9.frozen? ⟨gd, 0, none⟩ = false := VW.out.frozen 0
        go_upto_region 10 with fail
        clear q0 f9
        obtain ⟨wz, hwz⟩ : ∃ wz, wz = (w9.setCell ⟨gd, 0, none⟩ (.int .u64 (U : Int))) := ⟨_, rfl⟩
        rw [← hwz]
        replace CX := Lib.hid (show Blk wz (w.heap.size) 25 #[.bool true, .slice A (limbs n).length c, .slice B (limbs d0).length d] by rw [hwz]; exact (CX.out).far (p := ⟨gd, 0, none⟩) (by simp; omega) _)
        replace VW := Lib.hid (show Blk wz (gd) 34 #[.int .u64 (U : Int), .bool ex] by rw [hwz]; exact (VW.out).put 0 (.int .u64 (U : Int)))
        replace HW := Lib.hid (show Below w.heap.size w wz by rw [hwz]; exact bel_set (p := ⟨gd, 0, none⟩) (HW.out) (by show w.heap.size ≤ gd; omega) _)
        clear hwz
        clear CX0 CX1 CX2 VW0 VW1
        have CX0 : wz.cell? ⟨w.heap.size, 0, none⟩ = some (.bool true) := CX.out.cell 0
        have CX1 : wz.cell? ⟨w.heap.size, 1, none⟩ = some (.slice A (limbs n).length c) := CX.out.cell 1
        have CX2 : wz.cell? ⟨w.heap.size, 2, none⟩ = some (.slice B (limbs d0).length d) := CX.out.cell 2
        have VW0 : wz.cell? ⟨gd, 0, none⟩ = some (.int .u64 (U : Int)) := VW.out.cell 0
        have VW1 : wz.cell? ⟨gd, 1, none⟩ = some (.bool ex) := VW.out.cell 1
        go_wp2_with fail
        refine (alive3 _).mono ?_
        rintro e w4 ⟨rfl, hbl⟩
        replace CX := Lib.hid (CX.out.below hbl CX.out.lt)
        replace VW := Lib.hid (VW.out.below hbl VW.out.lt)
        replace HW := Lib.hid (bel_trans HW.out hbl); clear hbl
        clear CX0 CX1 CX2 VW0 VW1
        have CX0 : w4.cell? ⟨w.heap.size, 0, none⟩ = some (.bool true) := CX.out.cell 0
        have CX1 : w4.cell? ⟨w.heap.size, 1, none⟩ = some (.slice A (limbs n).length c) := CX.out.cell 1
        have CX2 : w4.cell? ⟨w.heap.size, 2, none⟩ = some (.slice B (limbs d0).length d) := CX.out.cell 2
        have VW0 : w4.cell? ⟨gd, 0, none⟩ = some (.int .u64 (U : Int)) := VW.out.cell 0
        have VW1 : w4.cell? ⟨gd, 1, none⟩ = some (.bool ex) := VW.out.cell 1
        go_wp2
        go_ret
        exact ⟨rfl, HW.out⟩
end
section
open Go.RowKit

theorem law_nearest (s : Bool) (A B : Option Addr) (c d : Nat) (x0 y0 : List Nat) (sz : Int) (w : World) (h1 : RdL w A x0) (h2 : RdL w B y0) (k1 : x0.length ≤ c) (k2 : y0.length ≤ d) (m1 : Lim x0) (m2 : Lim y0) :
    Calls Try.prog 3 #[.agg #[.bool s, .slice A x0.length c, .slice B y0.length d], .int .i64 sz] w (RetT w) := by
  rcases Fm.of sz with ⟨h32, h64⟩ | ⟨p, q, t, hf⟩
  · exact near_size s A B c d x0 y0 (few x0) (few y0) sz w h1 h2 k1 k2 m1 m2 h32 h64 rfl rfl
  have hz : (sz != 32) = false ∨ ((sz != 32) = true ∧ (sz != 64) = false) := by
    rcases hf with ⟨rfl, rfl, rfl, rfl⟩ | ⟨rfl, rfl, rfl, rfl⟩
    · exact .inl rfl
    · exact .inr ⟨rfl, rfl⟩
  cases hr : rightB s (few x0) (few y0)
  · rcases hz with z | ⟨z, z2⟩
    · exact near_wrong_f s A B c d x0 y0 (few x0) (few y0) sz p q t w h1 h2 k1 k2 m1 m2 hf z hr rfl rfl
    · exact near_wrong_t s A B c d x0 y0 (few x0) (few y0) sz p q t w h1 h2 k1 k2 m1 m2 hf z z2 hr rfl rfl
  · obtain ⟨⟨s0, n, d0⟩, hs, hx, hy, hn, hd, hq⟩ := rightB_num (few_lim m1) (few_lim m2) hr
    obtain rfl : s0 = s := hs
    obtain ⟨cc, ex, hC⟩ := code_any p q n d0 (Nat.pos_of_ne_zero hq.den)
    by_cases ho : (t + q + 2) * 2 ^ (p - 1) ≤ cc
    · rcases hz with z | ⟨z, z2⟩
      · exact near_over_f s0 A B c d x0 y0 n d0 sz p q t cc ex w h1 h2 k1 k2 m1 m2 hf z hn hd hq hC ho hx hy
      · exact near_over_t s0 A B c d x0 y0 n d0 sz p q t cc ex w h1 h2 k1 k2 m1 m2 hf z z2 hn hd hq hC ho hx hy
    · cases s0
      · rcases hz with z | ⟨z, z2⟩
        · exact near_pos_f A B c d x0 y0 n d0 sz p q t cc ex w h1 h2 k1 k2 m1 m2 hf z hn hd hq hC ho hx hy
        · exact near_pos_t A B c d x0 y0 n d0 sz p q t cc ex w h1 h2 k1 k2 m1 m2 hf z z2 hn hd hq hC ho hx hy
      · by_cases h0 : cc = 0
        · rcases hz with z | ⟨z, z2⟩
          · exact near_zero_f A B c d x0 y0 n d0 sz p q t cc ex w h1 h2 k1 k2 m1 m2 hf z hn hd hq hC ho h0 hx hy
          · exact near_zero_t A B c d x0 y0 n d0 sz p q t cc ex w h1 h2 k1 k2 m1 m2 hf z z2 hn hd hq hC ho h0 hx hy
        · rcases hz with z | ⟨z, z2⟩
          · exact near_neg_f A B c d x0 y0 n d0 sz p q t cc ex w h1 h2 k1 k2 m1 m2 hf z hn hd hq hC ho h0 hx hy
          · exact near_neg_t A B c d x0 y0 n d0 sz p q t cc ex w h1 h2 k1 k2 m1 m2 hf z z2 hn hd hq hC ho h0 hx hy
end
end Go.Proofs.Ytmbbdjpnecjleaa
