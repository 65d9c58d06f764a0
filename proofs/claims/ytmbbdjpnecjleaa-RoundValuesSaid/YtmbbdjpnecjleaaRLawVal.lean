/-
  The law RoundValues, walked.
-/
import Derived.Test.YtmbbdjpnecjleaaRoE
import Derived.Test.YtmbbdjpnecjleaaRoValue
import Derived.Test.YtmbbdjpnecjleaaRoD
namespace Go.Proofs.Ytmbbdjpnecjleaa
open Go.RowKit

theorem and_high {b z : Nat} {s : Bool} (hb : b < 2 ^ z) : (b + s.toNat * 2 ^ z) &&& 2 ^ z = s.toNat * 2 ^ z := by
  refine Nat.eq_of_testBit_eq fun i => ?_
  rw [Nat.testBit_and, Nat.testBit_two_pow, show b + s.toNat * 2 ^ z = 2 ^ z * s.toNat + b by rw [Nat.mul_comm, Nat.add_comm], Nat.testBit_two_pow_mul_add _ hb, show s.toNat * 2 ^ z = 2 ^ z * s.toNat + 0 by rw [Nat.mul_comm, Nat.add_zero], Nat.testBit_two_pow_mul_add _ (Nat.pow_pos (by decide))]
  by_cases h : i < z
  · rw [if_pos h, if_pos h, decide_eq_false (show ¬ z = i by omega)]
    simp
  · rw [if_neg h, if_neg h]
    by_cases h2 : z = i
    · rw [decide_eq_true h2, Bool.and_true]
    · rw [decide_eq_false h2, Bool.and_false]
      symm
      refine Nat.testBit_lt_two_pow (Nat.lt_of_le_of_lt (Bool.toNat_le s) ?_)
      exact Nat.one_lt_two_pow (by omega)
theorem andNot_high {b z : Nat} {s : Bool} (hb : b < 2 ^ z) (hz : z ≤ 63) : (b + s.toNat * 2 ^ z) &&& (18446744073709551615 - 2 ^ z) = b := by
  have hZ : 2 ^ z < 2 ^ 64 := Nat.pow_lt_pow_right (by decide) (by omega)
  refine Nat.eq_of_testBit_eq fun i => ?_
  rw [Nat.testBit_and, show 18446744073709551615 - 2 ^ z = 2 ^ 64 - (2 ^ z + 1) by omega, Nat.testBit_two_pow_sub_succ hZ, Nat.testBit_two_pow, show b + s.toNat * 2 ^ z = 2 ^ z * s.toNat + b by rw [Nat.mul_comm, Nat.add_comm], Nat.testBit_two_pow_mul_add _ hb]
  by_cases h : i < z
  · rw [if_pos h, decide_eq_true (show i < 64 by omega), decide_eq_false (show ¬ z = i by omega)]
    simp
  · have hbi : b.testBit i = false := Nat.testBit_lt_two_pow (Nat.lt_of_lt_of_le hb (Nat.pow_le_pow_right (by decide) (by omega)))
    rw [if_neg h, hbi]
    by_cases h2 : z = i
    · rw [decide_eq_true h2]; simp
    · rw [show s.toNat.testBit (i - z) = false from Nat.testBit_lt_two_pow (Nat.lt_of_le_of_lt (Bool.toNat_le s) (Nat.one_lt_two_pow (by omega)))]
      rfl
theorem refHigh_is3 {sz : Int} {p q t K : Nat} (hf : Fm sz p q t) (w : World) (hK : K = t + q + 2) : Calls Try.prog 17 #[.int .i64 sz] w (RetU3 K w) := by
  rw [hK]
  exact refHigh_any hf w
theorem refFrac_is3 {sz : Int} {p q t a c : Nat} (hf : Fm sz p q t) (b : Nat) (w : World) (hb : b ≤ (t + q + 2) * 2 ^ (p - 1)) (ha : FN p q b = a) (hc : FD p q b = c) : Calls Try.prog 48 #[.int .u64 (b : Int), .int .i64 sz] w (RetF3 a c w) := by
  rw [← ha, ← hc]
  exact refFrac_any hf b w hb
theorem refOver_is (n : Nat) (w : World) (v : Bool) (h : decide (Top ≤ n) = v) : Calls Try.prog 45 #[.string (dec n)] w (RetBB v w) := by
  rw [← h]
  exact refOver_any n w
theorem refCommon_is {g : Nat} (a b : Nat) (w : World) (hl : (decL a).length ≤ 1000) (hl' : (decL b).length ≤ 1000) (h : Nat.gcd a b = g) : Calls Try.prog 49 #[.string (dec a), .string (dec b)] w (RetS (dec g) w) := by
  rw [← h]
  exact refCommon_any a b w hl hl'
theorem refDiv_is {q r : Nat} (a b : Nat) (w : World) (hl : (decL a).length ≤ 1000) (hl' : (decL b).length ≤ 1000) (hb0 : b ≠ 0) (hq : a / b = q) (hr : a % b = r) : Calls Try.prog 43 #[.string (dec a), .string (dec b)] w (RetQR (dec q) (dec r) w) := by
  rw [← hq, ← hr]
  exact refDiv_any a b w hl hl' hb0
theorem pow_len_any {k n j : Nat} (hk : k < 32 * j) (hj : 1 ≤ j) (h : n ≤ 2 ^ k) : (decL n).length ≤ 10 * j := by
  refine decL_limbs (k := j) ?_ hj
  refine Nat.lt_of_le_of_lt h ?_
  rw [B32_eq, show (4294967296 : Nat) = 2 ^ 32 from rfl, ← Nat.pow_mul]
  exact Nat.pow_lt_pow_right (by decide) hk
theorem pow_len {k n : Nat} (hk : k < 1088) (h : n ≤ 2 ^ k) : (decL n).length ≤ 340 := pow_len_any (j := 34) hk (by decide) h
theorem expo_le {p t q b : Nat} (hb : b ≤ (t + q + 2) * 2 ^ (p - 1)) : expo p b ≤ t + q + 1 := by
  have h : b / 2 ^ (p - 1) ≤ t + q + 2 := Nat.div_le_of_le_mul (by rw [Nat.mul_comm]; exact hb)
  unfold expo
  omega
theorem mant_lt {p b : Nat} (hp : 1 < p) : mant p b ≤ 2 ^ p := by
  unfold mant
  have e : 2 ^ p = 2 * 2 ^ (p - 1) := by rw [Nat.mul_comm, ← Nat.pow_succ, show (p - 1).succ = p by omega]
  have h0 : 0 < 2 ^ (p - 1) := Nat.pow_pos (by decide)
  generalize 2 ^ (p - 1) = H at *
  split
  · rename_i h
    have := (Nat.div_eq_zero_iff_lt h0).1 h
    omega
  · have := Nat.mod_lt b h0
    omega
theorem FN_len {sz : Int} {p q t b : Nat} (hf : Fm sz p q t) (hb : b ≤ (t + q + 2) * 2 ^ (p - 1)) : (decL (FN p q b)).length ≤ 340 := by
  obtain ⟨op1, op2, oq0, oq, ot, os1, os2⟩ := hf.ok
  have h1 := expo_le hb
  refine pow_len (k := p + (t + 1)) (by omega) ?_
  unfold FN
  rw [Nat.pow_add]
  exact Nat.mul_le_mul (mant_lt op1) (Nat.pow_le_pow_right (by decide) (by omega))
theorem FD_len {sz : Int} {p q t b : Nat} (hf : Fm sz p q t) : (decL (FD p q b)).length ≤ 340 := by
  obtain ⟨op1, op2, oq0, oq, ot, os1, os2⟩ := hf.ok
  refine pow_len (k := q) (by omega) ?_
  exact Nat.pow_le_pow_right (by decide) (by omega)
set_option maxRecDepth 100000 in
set_option maxHeartbeats 1000000 in
theorem values_size_f (N : Nat) (sz : Int) (w : World) (hv : ∀ w1, Calls Try.prog 47 #[.int .u64 (N : Int), .int .i64 sz] w1 (RetQE noQ 1 w1)) (h32 : sz ≠ 32) (h64 : sz ≠ 64) :
    Calls Try.prog 9 #[.int .u64 (N : Int), .int .i64 sz] w (RetT w) := by
  have HV := Lib.hid hv; clear hv
  have z1 : (sz != 32) = true := by simp [h32]
  have z2 : (sz != 64) = true := by simp [h64]
  clear h32 h64
  have HW := Lib.hid (bel_refl w)
  go_enter Try.func9, Try.ntmps9
  go_wp2_with fail
  refine (HV.out _).mono ?_
  rintro e w1 ⟨va, ve, rfl, hna, hne, hbl⟩
  replace HW := Lib.hid (bel_trans HW.out hbl); clear hbl
  have HNa := Lib.hid hna; clear hna
  obtain ⟨Aa, ca, rfl, hca, hra⟩ := HNa.out.row
  have Ra := Lib.hid hra; have HCa := Lib.hid hca; clear hra hca
  have HNe := Lib.hid hne; clear hne
  obtain ⟨Ae, ce, rfl, hce, hre⟩ := HNe.out.row
  have Re := Lib.hid hre; have HCe := Lib.hid hce; clear hre hce
  rw [show noQ.s = false from rfl, show noQ.n = 0 from rfl, show noQ.d = 0 from rfl, limbs0]
  go_upto_region 2 with fail
  obtain ⟨wm, hwm⟩ : ∃ wm, wm = w1.alloc (.cells #[.bool false, .slice Aa 0 ca, .slice Ae 0 ce] 25) := ⟨_, rfl⟩
  rw [← hwm]
  have hbl : Below w1.heap.size w1 wm := by rw [hwm]; exact bel_alloc (bel_refl _) _
  have VX : Blk wm (w1.heap.size) 25 #[.bool false, .slice Aa 0 ca, .slice Ae 0 ce] := by
    have hz := Blk.new (w1) 25 #[.bool false, .slice Aa 0 ca, .slice Ae 0 ce]
    rw [hwm]
    exact hz
  clear hwm
  replace Ra := Lib.hid (Ra.out.below hbl)
  replace HNa := Lib.hid (HNa.out.below hbl)
  replace Re := Lib.hid (Re.out.below hbl)
  replace HNe := Lib.hid (HNe.out.below hbl)
  replace HW := Lib.hid (bel_trans HW.out hbl); clear hbl
  replace VX := Lib.hid VX
  have VX0 : wm.cell? ⟨w1.heap.size, 0, none⟩ = some (.bool false) := VX.out.cell 0
  have VX1 : wm.cell? ⟨w1.heap.size, 1, none⟩ = some (.slice Aa 0 ca) := VX.out.cell 1
  have VX2 : wm.cell? ⟨w1.heap.size, 2, none⟩ = some (.slice Ae 0 ce) := VX.out.cell 2
  go_cut [39] (fun v wx => v = .bool true ∧ Below wm.heap.size wm wx)
  case first =>
    go_wp2_with fail
    go_meet
    exact ⟨rfl, bel_refl _⟩
  case rest =>
    obtain ⟨rfl, hbl⟩ := hcut
    replace Ra := Lib.hid (Ra.out.below hbl)
    replace HNa := Lib.hid (HNa.out.below hbl)
    replace Re := Lib.hid (Re.out.below hbl)
    replace HNe := Lib.hid (HNe.out.below hbl)
    replace VX := Lib.hid (VX.out.below hbl VX.out.lt)
    replace HW := Lib.hid (bel_trans HW.out hbl); clear hbl
    clear VX0 VX1 VX2
    have VX0 : wc.cell? ⟨w1.heap.size, 0, none⟩ = some (.bool false) := VX.out.cell 0
    have VX1 : wc.cell? ⟨w1.heap.size, 1, none⟩ = some (.slice Aa 0 ca) := VX.out.cell 1
    have VX2 : wc.cell? ⟨w1.heap.size, 2, none⟩ = some (.slice Ae 0 ce) := VX.out.cell 2
    go_wp2_with fail
    refine (alive3 _).mono ?_
    rintro e w2 ⟨rfl, hbl⟩
    replace Ra := Lib.hid (Ra.out.below hbl)
    replace HNa := Lib.hid (HNa.out.below hbl)
    replace Re := Lib.hid (Re.out.below hbl)
    replace HNe := Lib.hid (HNe.out.below hbl)
    replace VX := Lib.hid (VX.out.below hbl VX.out.lt)
    replace HW := Lib.hid (bel_trans HW.out hbl); clear hbl
    clear VX0 VX1 VX2
    have VX0 : w2.cell? ⟨w1.heap.size, 0, none⟩ = some (.bool false) := VX.out.cell 0
    have VX1 : w2.cell? ⟨w1.heap.size, 1, none⟩ = some (.slice Aa 0 ca) := VX.out.cell 1
    have VX2 : w2.cell? ⟨w1.heap.size, 2, none⟩ = some (.slice Ae 0 ce) := VX.out.cell 2
    go_wp2_with fail
    refine (same_none Aa Ae ca ce _).mono ?_
    rintro e w3 ⟨rfl, hbl⟩
    replace Ra := Lib.hid (Ra.out.below hbl)
    replace HNa := Lib.hid (HNa.out.below hbl)
    replace Re := Lib.hid (Re.out.below hbl)
    replace HNe := Lib.hid (HNe.out.below hbl)
    replace VX := Lib.hid (VX.out.below hbl VX.out.lt)
    replace HW := Lib.hid (bel_trans HW.out hbl); clear hbl
    clear VX0 VX1 VX2
    have VX0 : w3.cell? ⟨w1.heap.size, 0, none⟩ = some (.bool false) := VX.out.cell 0
    have VX1 : w3.cell? ⟨w1.heap.size, 1, none⟩ = some (.slice Aa 0 ca) := VX.out.cell 1
    have VX2 : w3.cell? ⟨w1.heap.size, 2, none⟩ = some (.slice Ae 0 ce) := VX.out.cell 2
    go_wp2
    go_ret
    exact ⟨rfl, HW.out⟩

set_option maxRecDepth 100000 in
set_option maxHeartbeats 1000000 in
theorem values_long_t {p q t : Nat} (N : Nat) (sz : Int) (w : World) (hv : ∀ w1, Calls Try.prog 47 #[.int .u64 (N : Int), .int .i64 sz] w1 (RetQE noQ 1 w1)) (hf : Fm sz p q t) (zz : (sz == 32) = true) (hN : 4294967296 ≤ N) :
    Calls Try.prog 9 #[.int .u64 (N : Int), .int .i64 sz] w (RetT w) := by
  have HV := Lib.hid hv; clear hv
  have HZ := Lib.hid zz; clear zz
  obtain ⟨op1, op2, oq0, oq, ot, os1, os2⟩ := hf.ok
  have HF := Lib.hid hf; clear hf
  have HN := Lib.hid hN; clear hN
  have HW := Lib.hid (bel_refl w)
  go_enter Try.func9, Try.ntmps9
  go_wp2_with fail
  refine (HV.out _).mono ?_
  rintro e w1 ⟨va, ve, rfl, hna, hne, hbl⟩
  replace HW := Lib.hid (bel_trans HW.out hbl); clear hbl
  have HNa := Lib.hid hna; clear hna
  obtain ⟨Aa, ca, rfl, hca, hra⟩ := HNa.out.row
  have Ra := Lib.hid hra; have HCa := Lib.hid hca; clear hra hca
  have HNe := Lib.hid hne; clear hne
  obtain ⟨Ae, ce, rfl, hce, hre⟩ := HNe.out.row
  have Re := Lib.hid hre; have HCe := Lib.hid hce; clear hre hce
  rw [show noQ.s = false from rfl, show noQ.n = 0 from rfl, show noQ.d = 0 from rfl, limbs0]
  go_upto_region 2 with fail
  obtain ⟨wm, hwm⟩ : ∃ wm, wm = w1.alloc (.cells #[.bool false, .slice Aa 0 ca, .slice Ae 0 ce] 25) := ⟨_, rfl⟩
  rw [← hwm]
  have hbl : Below w1.heap.size w1 wm := by rw [hwm]; exact bel_alloc (bel_refl _) _
  have VX : Blk wm (w1.heap.size) 25 #[.bool false, .slice Aa 0 ca, .slice Ae 0 ce] := by
    have hz := Blk.new (w1) 25 #[.bool false, .slice Aa 0 ca, .slice Ae 0 ce]
    rw [hwm]
    exact hz
  clear hwm
  replace Ra := Lib.hid (Ra.out.below hbl)
  replace HNa := Lib.hid (HNa.out.below hbl)
  replace Re := Lib.hid (Re.out.below hbl)
  replace HNe := Lib.hid (HNe.out.below hbl)
  replace HW := Lib.hid (bel_trans HW.out hbl); clear hbl
  replace VX := Lib.hid VX
  have VX0 : wm.cell? ⟨w1.heap.size, 0, none⟩ = some (.bool false) := VX.out.cell 0
  have VX1 : wm.cell? ⟨w1.heap.size, 1, none⟩ = some (.slice Aa 0 ca) := VX.out.cell 1
  have VX2 : wm.cell? ⟨w1.heap.size, 2, none⟩ = some (.slice Ae 0 ce) := VX.out.cell 2
  go_cut [39] (fun v wx => v = .bool true ∧ Below wm.heap.size wm wx)
  case first =>
    obtain rfl : sz = 32 := by simpa using HZ.out
    have g1 : ((N : Int) / 4294967296 != 0) = true := by have := HN.out; simp only [bne_iff_ne, ne_eq]; omega
    go_wp2_with fail
    go_meet
    exact ⟨rfl, bel_refl _⟩
  case rest =>
    obtain ⟨rfl, hbl⟩ := hcut
    replace Ra := Lib.hid (Ra.out.below hbl)
    replace HNa := Lib.hid (HNa.out.below hbl)
    replace Re := Lib.hid (Re.out.below hbl)
    replace HNe := Lib.hid (HNe.out.below hbl)
    replace VX := Lib.hid (VX.out.below hbl VX.out.lt)
    replace HW := Lib.hid (bel_trans HW.out hbl); clear hbl
    clear VX0 VX1 VX2
    have VX0 : wc.cell? ⟨w1.heap.size, 0, none⟩ = some (.bool false) := VX.out.cell 0
    have VX1 : wc.cell? ⟨w1.heap.size, 1, none⟩ = some (.slice Aa 0 ca) := VX.out.cell 1
    have VX2 : wc.cell? ⟨w1.heap.size, 2, none⟩ = some (.slice Ae 0 ce) := VX.out.cell 2
    go_wp2_with fail
    refine (alive3 _).mono ?_
    rintro e w2 ⟨rfl, hbl⟩
    replace Ra := Lib.hid (Ra.out.below hbl)
    replace HNa := Lib.hid (HNa.out.below hbl)
    replace Re := Lib.hid (Re.out.below hbl)
    replace HNe := Lib.hid (HNe.out.below hbl)
    replace VX := Lib.hid (VX.out.below hbl VX.out.lt)
    replace HW := Lib.hid (bel_trans HW.out hbl); clear hbl
    clear VX0 VX1 VX2
    have VX0 : w2.cell? ⟨w1.heap.size, 0, none⟩ = some (.bool false) := VX.out.cell 0
    have VX1 : w2.cell? ⟨w1.heap.size, 1, none⟩ = some (.slice Aa 0 ca) := VX.out.cell 1
    have VX2 : w2.cell? ⟨w1.heap.size, 2, none⟩ = some (.slice Ae 0 ce) := VX.out.cell 2
    go_wp2_with fail
    refine (same_none Aa Ae ca ce _).mono ?_
    rintro e w3 ⟨rfl, hbl⟩
    replace Ra := Lib.hid (Ra.out.below hbl)
    replace HNa := Lib.hid (HNa.out.below hbl)
    replace Re := Lib.hid (Re.out.below hbl)
    replace HNe := Lib.hid (HNe.out.below hbl)
    replace VX := Lib.hid (VX.out.below hbl VX.out.lt)
    replace HW := Lib.hid (bel_trans HW.out hbl); clear hbl
    clear VX0 VX1 VX2
    have VX0 : w3.cell? ⟨w1.heap.size, 0, none⟩ = some (.bool false) := VX.out.cell 0
    have VX1 : w3.cell? ⟨w1.heap.size, 1, none⟩ = some (.slice Aa 0 ca) := VX.out.cell 1
    have VX2 : w3.cell? ⟨w1.heap.size, 2, none⟩ = some (.slice Ae 0 ce) := VX.out.cell 2
    go_wp2
    go_ret
    exact ⟨rfl, HW.out⟩

set_option maxRecDepth 100000 in
set_option maxHeartbeats 1000000 in
theorem values_minus_f {p q t : Nat} (N : Nat) (sz : Int) (w : World) (hv : ∀ w1, Calls Try.prog 47 #[.int .u64 (N : Int), .int .i64 sz] w1 (RetQE noQ 1 w1)) (hf : Fm sz p q t) (zz : (sz == 32) = false) (hN : N = 2 ^ (sz.toNat - 1)) :
    Calls Try.prog 9 #[.int .u64 (N : Int), .int .i64 sz] w (RetT w) := by
  have HV := Lib.hid hv; clear hv
  have HZ := Lib.hid zz; clear zz
  obtain ⟨op1, op2, oq0, oq, ot, os1, os2⟩ := hf.ok
  have HF := Lib.hid hf; clear hf
  have HN := Lib.hid hN; clear hN
  have HW := Lib.hid (bel_refl w)
  go_enter Try.func9, Try.ntmps9
  go_wp2_with fail
  refine (HV.out _).mono ?_
  rintro e w1 ⟨va, ve, rfl, hna, hne, hbl⟩
  replace HW := Lib.hid (bel_trans HW.out hbl); clear hbl
  have HNa := Lib.hid hna; clear hna
  obtain ⟨Aa, ca, rfl, hca, hra⟩ := HNa.out.row
  have Ra := Lib.hid hra; have HCa := Lib.hid hca; clear hra hca
  have HNe := Lib.hid hne; clear hne
  obtain ⟨Ae, ce, rfl, hce, hre⟩ := HNe.out.row
  have Re := Lib.hid hre; have HCe := Lib.hid hce; clear hre hce
  rw [show noQ.s = false from rfl, show noQ.n = 0 from rfl, show noQ.d = 0 from rfl, limbs0]
  go_upto_region 2 with fail
  obtain ⟨wm, hwm⟩ : ∃ wm, wm = w1.alloc (.cells #[.bool false, .slice Aa 0 ca, .slice Ae 0 ce] 25) := ⟨_, rfl⟩
  rw [← hwm]
  have hbl : Below w1.heap.size w1 wm := by rw [hwm]; exact bel_alloc (bel_refl _) _
  have VX : Blk wm (w1.heap.size) 25 #[.bool false, .slice Aa 0 ca, .slice Ae 0 ce] := by
    have hz := Blk.new (w1) 25 #[.bool false, .slice Aa 0 ca, .slice Ae 0 ce]
    rw [hwm]
    exact hz
  clear hwm
  replace Ra := Lib.hid (Ra.out.below hbl)
  replace HNa := Lib.hid (HNa.out.below hbl)
  replace Re := Lib.hid (Re.out.below hbl)
  replace HNe := Lib.hid (HNe.out.below hbl)
  replace HW := Lib.hid (bel_trans HW.out hbl); clear hbl
  replace VX := Lib.hid VX
  have VX0 : wm.cell? ⟨w1.heap.size, 0, none⟩ = some (.bool false) := VX.out.cell 0
  have VX1 : wm.cell? ⟨w1.heap.size, 1, none⟩ = some (.slice Aa 0 ca) := VX.out.cell 1
  have VX2 : wm.cell? ⟨w1.heap.size, 2, none⟩ = some (.slice Ae 0 ce) := VX.out.cell 2
  go_cut [39] (fun v wx => v = .bool true ∧ Below wm.heap.size wm wx)
  case first =>
    obtain rfl : sz = 64 := by rcases HF.out with h | h; have h2 := HZ.out; rw [h.1] at h2; cases h2; exact h.1
    obtain rfl : N = 9223372036854775808 := HN.out
    go_wp2_with fail
    refine (high3_any HF.out _ (H := 9223372036854775808) rfl).mono ?_
    rintro e w7 ⟨rfl, hbl⟩
    have H7 := Lib.hid hbl; clear hbl
    go_wp2_with fail
    go_meet
    exact ⟨rfl, H7.out⟩
  case rest =>
    obtain ⟨rfl, hbl⟩ := hcut
    replace Ra := Lib.hid (Ra.out.below hbl)
    replace HNa := Lib.hid (HNa.out.below hbl)
    replace Re := Lib.hid (Re.out.below hbl)
    replace HNe := Lib.hid (HNe.out.below hbl)
    replace VX := Lib.hid (VX.out.below hbl VX.out.lt)
    replace HW := Lib.hid (bel_trans HW.out hbl); clear hbl
    clear VX0 VX1 VX2
    have VX0 : wc.cell? ⟨w1.heap.size, 0, none⟩ = some (.bool false) := VX.out.cell 0
    have VX1 : wc.cell? ⟨w1.heap.size, 1, none⟩ = some (.slice Aa 0 ca) := VX.out.cell 1
    have VX2 : wc.cell? ⟨w1.heap.size, 2, none⟩ = some (.slice Ae 0 ce) := VX.out.cell 2
    go_wp2_with fail
    refine (alive3 _).mono ?_
    rintro e w2 ⟨rfl, hbl⟩
    replace Ra := Lib.hid (Ra.out.below hbl)
    replace HNa := Lib.hid (HNa.out.below hbl)
    replace Re := Lib.hid (Re.out.below hbl)
    replace HNe := Lib.hid (HNe.out.below hbl)
    replace VX := Lib.hid (VX.out.below hbl VX.out.lt)
    replace HW := Lib.hid (bel_trans HW.out hbl); clear hbl
    clear VX0 VX1 VX2
    have VX0 : w2.cell? ⟨w1.heap.size, 0, none⟩ = some (.bool false) := VX.out.cell 0
    have VX1 : w2.cell? ⟨w1.heap.size, 1, none⟩ = some (.slice Aa 0 ca) := VX.out.cell 1
    have VX2 : w2.cell? ⟨w1.heap.size, 2, none⟩ = some (.slice Ae 0 ce) := VX.out.cell 2
    go_wp2_with fail
    refine (same_none Aa Ae ca ce _).mono ?_
    rintro e w3 ⟨rfl, hbl⟩
    replace Ra := Lib.hid (Ra.out.below hbl)
    replace HNa := Lib.hid (HNa.out.below hbl)
    replace Re := Lib.hid (Re.out.below hbl)
    replace HNe := Lib.hid (HNe.out.below hbl)
    replace VX := Lib.hid (VX.out.below hbl VX.out.lt)
    replace HW := Lib.hid (bel_trans HW.out hbl); clear hbl
    clear VX0 VX1 VX2
    have VX0 : w3.cell? ⟨w1.heap.size, 0, none⟩ = some (.bool false) := VX.out.cell 0
    have VX1 : w3.cell? ⟨w1.heap.size, 1, none⟩ = some (.slice Aa 0 ca) := VX.out.cell 1
    have VX2 : w3.cell? ⟨w1.heap.size, 2, none⟩ = some (.slice Ae 0 ce) := VX.out.cell 2
    go_wp2
    go_ret
    exact ⟨rfl, HW.out⟩

set_option maxRecDepth 100000 in
set_option maxHeartbeats 1000000 in
theorem values_minus_t {p q t : Nat} (N : Nat) (sz : Int) (w : World) (hv : ∀ w1, Calls Try.prog 47 #[.int .u64 (N : Int), .int .i64 sz] w1 (RetQE noQ 1 w1)) (hf : Fm sz p q t) (zz : (sz == 32) = true) (hN : N = 2 ^ (sz.toNat - 1)) :
    Calls Try.prog 9 #[.int .u64 (N : Int), .int .i64 sz] w (RetT w) := by
  have HV := Lib.hid hv; clear hv
  have HZ := Lib.hid zz; clear zz
  obtain ⟨op1, op2, oq0, oq, ot, os1, os2⟩ := hf.ok
  have HF := Lib.hid hf; clear hf
  have HN := Lib.hid hN; clear hN
  have HW := Lib.hid (bel_refl w)
  go_enter Try.func9, Try.ntmps9
  go_wp2_with fail
  refine (HV.out _).mono ?_
  rintro e w1 ⟨va, ve, rfl, hna, hne, hbl⟩
  replace HW := Lib.hid (bel_trans HW.out hbl); clear hbl
  have HNa := Lib.hid hna; clear hna
  obtain ⟨Aa, ca, rfl, hca, hra⟩ := HNa.out.row
  have Ra := Lib.hid hra; have HCa := Lib.hid hca; clear hra hca
  have HNe := Lib.hid hne; clear hne
  obtain ⟨Ae, ce, rfl, hce, hre⟩ := HNe.out.row
  have Re := Lib.hid hre; have HCe := Lib.hid hce; clear hre hce
  rw [show noQ.s = false from rfl, show noQ.n = 0 from rfl, show noQ.d = 0 from rfl, limbs0]
  go_upto_region 2 with fail
  obtain ⟨wm, hwm⟩ : ∃ wm, wm = w1.alloc (.cells #[.bool false, .slice Aa 0 ca, .slice Ae 0 ce] 25) := ⟨_, rfl⟩
  rw [← hwm]
  have hbl : Below w1.heap.size w1 wm := by rw [hwm]; exact bel_alloc (bel_refl _) _
  have VX : Blk wm (w1.heap.size) 25 #[.bool false, .slice Aa 0 ca, .slice Ae 0 ce] := by
    have hz := Blk.new (w1) 25 #[.bool false, .slice Aa 0 ca, .slice Ae 0 ce]
    rw [hwm]
    exact hz
  clear hwm
  replace Ra := Lib.hid (Ra.out.below hbl)
  replace HNa := Lib.hid (HNa.out.below hbl)
  replace Re := Lib.hid (Re.out.below hbl)
  replace HNe := Lib.hid (HNe.out.below hbl)
  replace HW := Lib.hid (bel_trans HW.out hbl); clear hbl
  replace VX := Lib.hid VX
  have VX0 : wm.cell? ⟨w1.heap.size, 0, none⟩ = some (.bool false) := VX.out.cell 0
  have VX1 : wm.cell? ⟨w1.heap.size, 1, none⟩ = some (.slice Aa 0 ca) := VX.out.cell 1
  have VX2 : wm.cell? ⟨w1.heap.size, 2, none⟩ = some (.slice Ae 0 ce) := VX.out.cell 2
  go_cut [39] (fun v wx => v = .bool true ∧ Below wm.heap.size wm wx)
  case first =>
    obtain rfl : sz = 32 := by simpa using HZ.out
    obtain rfl : N = 2147483648 := HN.out
    go_wp2_with fail
    refine (high3_any HF.out _ (H := 2147483648) rfl).mono ?_
    rintro e w7 ⟨rfl, hbl⟩
    have H7 := Lib.hid hbl; clear hbl
    go_wp2_with fail
    go_meet
    exact ⟨rfl, H7.out⟩
  case rest =>
    obtain ⟨rfl, hbl⟩ := hcut
    replace Ra := Lib.hid (Ra.out.below hbl)
    replace HNa := Lib.hid (HNa.out.below hbl)
    replace Re := Lib.hid (Re.out.below hbl)
    replace HNe := Lib.hid (HNe.out.below hbl)
    replace VX := Lib.hid (VX.out.below hbl VX.out.lt)
    replace HW := Lib.hid (bel_trans HW.out hbl); clear hbl
    clear VX0 VX1 VX2
    have VX0 : wc.cell? ⟨w1.heap.size, 0, none⟩ = some (.bool false) := VX.out.cell 0
    have VX1 : wc.cell? ⟨w1.heap.size, 1, none⟩ = some (.slice Aa 0 ca) := VX.out.cell 1
    have VX2 : wc.cell? ⟨w1.heap.size, 2, none⟩ = some (.slice Ae 0 ce) := VX.out.cell 2
    go_wp2_with fail
    refine (alive3 _).mono ?_
    rintro e w2 ⟨rfl, hbl⟩
    replace Ra := Lib.hid (Ra.out.below hbl)
    replace HNa := Lib.hid (HNa.out.below hbl)
    replace Re := Lib.hid (Re.out.below hbl)
    replace HNe := Lib.hid (HNe.out.below hbl)
    replace VX := Lib.hid (VX.out.below hbl VX.out.lt)
    replace HW := Lib.hid (bel_trans HW.out hbl); clear hbl
    clear VX0 VX1 VX2
    have VX0 : w2.cell? ⟨w1.heap.size, 0, none⟩ = some (.bool false) := VX.out.cell 0
    have VX1 : w2.cell? ⟨w1.heap.size, 1, none⟩ = some (.slice Aa 0 ca) := VX.out.cell 1
    have VX2 : w2.cell? ⟨w1.heap.size, 2, none⟩ = some (.slice Ae 0 ce) := VX.out.cell 2
    go_wp2_with fail
    refine (same_none Aa Ae ca ce _).mono ?_
    rintro e w3 ⟨rfl, hbl⟩
    replace Ra := Lib.hid (Ra.out.below hbl)
    replace HNa := Lib.hid (HNa.out.below hbl)
    replace Re := Lib.hid (Re.out.below hbl)
    replace HNe := Lib.hid (HNe.out.below hbl)
    replace VX := Lib.hid (VX.out.below hbl VX.out.lt)
    replace HW := Lib.hid (bel_trans HW.out hbl); clear hbl
    clear VX0 VX1 VX2
    have VX0 : w3.cell? ⟨w1.heap.size, 0, none⟩ = some (.bool false) := VX.out.cell 0
    have VX1 : w3.cell? ⟨w1.heap.size, 1, none⟩ = some (.slice Aa 0 ca) := VX.out.cell 1
    have VX2 : w3.cell? ⟨w1.heap.size, 2, none⟩ = some (.slice Ae 0 ce) := VX.out.cell 2
    go_wp2
    go_ret
    exact ⟨rfl, HW.out⟩

set_option maxRecDepth 100000 in
set_option maxHeartbeats 1000000 in
theorem values_ones_f {p q t : Nat} {b : Nat} {s : Bool} (N : Nat) (sz : Int) (w : World) (hv : ∀ w1, Calls Try.prog 47 #[.int .u64 (N : Int), .int .i64 sz] w1 (RetQE noQ 1 w1)) (hf : Fm sz p q t) (zz : (sz == 32) = false) (hbZ : b < 2 ^ (sz.toNat - 1)) (hs : b = 0 → s = false) (hN : N = b + s.toNat * 2 ^ (sz.toNat - 1)) (h1 : b / 2 ^ (p - 1) = t + q + 2) :
    Calls Try.prog 9 #[.int .u64 (N : Int), .int .i64 sz] w (RetT w) := by
  have HV := Lib.hid hv; clear hv
  have HZ := Lib.hid zz; clear zz
  obtain ⟨op1, op2, oq0, oq, ot, os1, os2⟩ := hf.ok
  have HF := Lib.hid hf; clear hf
  obtain ⟨z, hz3⟩ : ∃ z : Nat, sz = (z : Int) + 1 := ⟨sz.toNat - 1, by omega⟩
  have hz63 : z ≤ 63 := by omega
  have hzz : sz.toNat - 1 = z := by omega
  rw [hzz] at hbZ hN
  obtain ⟨Z, hZ⟩ : ∃ Z, Z = 2 ^ z := ⟨_, rfl⟩
  obtain ⟨H, hH⟩ : ∃ H, H = 2 ^ (p - 1) := ⟨_, rfl⟩
  obtain ⟨K, hK⟩ : ∃ K, K = t + q + 2 := ⟨_, rfl⟩
  have hZ1 : Z ≤ 9223372036854775808 := by rw [hZ]; exact Nat.pow_le_pow_right (n := 2) (j := 63) (by decide) hz63
  obtain ⟨SZ, hSZ⟩ : ∃ S, S = s.toNat * Z := ⟨_, rfl⟩
  have hsz : SZ ≤ Z := by rw [hSZ]; have := Nat.mul_le_mul_right Z (Bool.toNat_le s); omega
  have hbZ2 := hbZ
  have hN2 := hN
  rw [← hZ] at hbZ hN
  rw [← hSZ] at hN
  have hNlt : N < 18446744073709551616 := by omega
  have a1 : bits BinOp.and IntKind.u64 (N : Int) (Z : Int) = (SZ : Int) := by rw [u64_and_nat _ _ hNlt (by omega), hN2, hZ, and_high hbZ2, hSZ, hZ]
  have a2 : ((SZ : Int) != 0) = s := by
    rw [hSZ]
    have : 0 < Z := by rw [hZ]; exact Nat.pow_pos (by decide)
    cases s
    · simp
    · simp; omega
  have a3 : bits BinOp.andNot IntKind.u64 (N : Int) (Z : Int) = (b : Int) := by rw [u64_andNot_nat _ _ hNlt (by omega), hN2, hZ, andNot_high hbZ2 hz63]
  have hNZ : N ≠ Z := by
    have h0 : 0 < Z := by rw [hZ]; exact Nat.pow_pos (by decide)
    cases s
    · rw [hN, hSZ]; simp; omega
    · have : b ≠ 0 := fun h => by have := hs h; cases this
      rw [hN, hSZ]; simp; omega
  have a4 : ((N : Int) == (Z : Int)) = false := by simp only [beq_eq_false_iff_ne, ne_eq]; omega
  have a5 : ¬ (N : Int) = (Z : Int) := by omega
  obtain ⟨x, hx⟩ : ∃ x, x = b / H := ⟨_, rfl⟩
  have a6 : IntKind.i64.wrap ((p : Int) - 1) = ((p - 1 : Nat) : Int) := by rw [IntKind.wrap_i64]; omega
  have a7 : (2 : Int) ^ (p - 1) = (H : Int) := by rw [hH, Int.natCast_pow]; rfl
  have a8 : (b : Int) / (H : Int) = (x : Int) := by rw [hx]; exact (Int.natCast_ediv b H).symm
  have hxK : x = K := by rw [hx, hH, hK]; exact h1
  have a9 : ((x : Int) == (K : Int)) = true := by rw [hxK]; simp
  clear hxK h1
  have HHZ := Lib.hid (show Z = 2 ^ (sz.toNat - 1) by rw [hzz]; exact hZ)
  have HK := Lib.hid hK; clear hK
  clear hz3 hz63 hzz hZ hH hZ1 hSZ hsz hbZ2 hN2 hN hNlt hNZ hx hbZ hs
  have HW := Lib.hid (bel_refl w)
  go_enter Try.func9, Try.ntmps9
  go_wp2_with fail
  refine (HV.out _).mono ?_
  rintro e w1 ⟨va, ve, rfl, hna, hne, hbl⟩
  replace HW := Lib.hid (bel_trans HW.out hbl); clear hbl
  have HNa := Lib.hid hna; clear hna
  obtain ⟨Aa, ca, rfl, hca, hra⟩ := HNa.out.row
  have Ra := Lib.hid hra; have HCa := Lib.hid hca; clear hra hca
  have HNe := Lib.hid hne; clear hne
  obtain ⟨Ae, ce, rfl, hce, hre⟩ := HNe.out.row
  have Re := Lib.hid hre; have HCe := Lib.hid hce; clear hre hce
  rw [show noQ.s = false from rfl, show noQ.n = 0 from rfl, show noQ.d = 0 from rfl, limbs0]
  go_upto_region 2 with fail
  obtain ⟨wm, hwm⟩ : ∃ wm, wm = w1.alloc (.cells #[.bool false, .slice Aa 0 ca, .slice Ae 0 ce] 25) := ⟨_, rfl⟩
  rw [← hwm]
  have hbl : Below w1.heap.size w1 wm := by rw [hwm]; exact bel_alloc (bel_refl _) _
  have VX : Blk wm (w1.heap.size) 25 #[.bool false, .slice Aa 0 ca, .slice Ae 0 ce] := by
    have hz := Blk.new (w1) 25 #[.bool false, .slice Aa 0 ca, .slice Ae 0 ce]
    rw [hwm]
    exact hz
  clear hwm
  replace Ra := Lib.hid (Ra.out.below hbl)
  replace HNa := Lib.hid (HNa.out.below hbl)
  replace Re := Lib.hid (Re.out.below hbl)
  replace HNe := Lib.hid (HNe.out.below hbl)
  replace HW := Lib.hid (bel_trans HW.out hbl); clear hbl
  replace VX := Lib.hid VX
  have VX0 : wm.cell? ⟨w1.heap.size, 0, none⟩ = some (.bool false) := VX.out.cell 0
  have VX1 : wm.cell? ⟨w1.heap.size, 1, none⟩ = some (.slice Aa 0 ca) := VX.out.cell 1
  have VX2 : wm.cell? ⟨w1.heap.size, 2, none⟩ = some (.slice Ae 0 ce) := VX.out.cell 2
  go_cut [39] (fun v wx => v = .bool false ∧ Below wm.heap.size wm wx)
  case first =>
    obtain rfl : sz = 64 := by rcases HF.out with h | h; have h2 := HZ.out; rw [h.1] at h2; cases h2; exact h.1
    go_wp2_with fail
    refine (high3_any HF.out _ (H := Z) HHZ.out).mono ?_
    rintro e w7 ⟨rfl, hbl⟩
    have H7 := Lib.hid hbl; clear hbl
    go_wp2_with fail
    go_meet
    exact ⟨rfl, H7.out⟩
  case rest =>
    obtain ⟨rfl, hbl⟩ := hcut
    replace Ra := Lib.hid (Ra.out.below hbl)
    replace HNa := Lib.hid (HNa.out.below hbl)
    replace Re := Lib.hid (Re.out.below hbl)
    replace HNe := Lib.hid (HNe.out.below hbl)
    replace VX := Lib.hid (VX.out.below hbl VX.out.lt)
    replace HW := Lib.hid (bel_trans HW.out hbl); clear hbl
    clear VX0 VX1 VX2
    have VX0 : wc.cell? ⟨w1.heap.size, 0, none⟩ = some (.bool false) := VX.out.cell 0
    have VX1 : wc.cell? ⟨w1.heap.size, 1, none⟩ = some (.slice Aa 0 ca) := VX.out.cell 1
    have VX2 : wc.cell? ⟨w1.heap.size, 2, none⟩ = some (.slice Ae 0 ce) := VX.out.cell 2
    go_wp2_with fail
    refine (high3_any HF.out _ HHZ.out).mono ?_
    rintro e w2 ⟨rfl, hbl⟩
    replace Ra := Lib.hid (Ra.out.below hbl)
    replace HNa := Lib.hid (HNa.out.below hbl)
    replace Re := Lib.hid (Re.out.below hbl)
    replace HNe := Lib.hid (HNe.out.below hbl)
    replace VX := Lib.hid (VX.out.below hbl VX.out.lt)
    replace HW := Lib.hid (bel_trans HW.out hbl); clear hbl
    clear VX0 VX1 VX2
    have VX0 : w2.cell? ⟨w1.heap.size, 0, none⟩ = some (.bool false) := VX.out.cell 0
    have VX1 : w2.cell? ⟨w1.heap.size, 1, none⟩ = some (.slice Aa 0 ca) := VX.out.cell 1
    have VX2 : w2.cell? ⟨w1.heap.size, 2, none⟩ = some (.slice Ae 0 ce) := VX.out.cell 2
    go_wp2_with fail
    refine (high3_any HF.out _ HHZ.out).mono ?_
    rintro e w3 ⟨rfl, hbl⟩
    replace Ra := Lib.hid (Ra.out.below hbl)
    replace HNa := Lib.hid (HNa.out.below hbl)
    replace Re := Lib.hid (Re.out.below hbl)
    replace HNe := Lib.hid (HNe.out.below hbl)
    replace VX := Lib.hid (VX.out.below hbl VX.out.lt)
    replace HW := Lib.hid (bel_trans HW.out hbl); clear hbl
    clear VX0 VX1 VX2
    have VX0 : w3.cell? ⟨w1.heap.size, 0, none⟩ = some (.bool false) := VX.out.cell 0
    have VX1 : w3.cell? ⟨w1.heap.size, 1, none⟩ = some (.slice Aa 0 ca) := VX.out.cell 1
    have VX2 : w3.cell? ⟨w1.heap.size, 2, none⟩ = some (.slice Ae 0 ce) := VX.out.cell 2
    go_upto_region 5 with fail
    refine wp_region_typed 8 (TOf [VIs (.int .u64 (b : Int)),
        VIs (.int .i64 sz),
        VIs (.int .i64 (p : Int)),
        VIs (.int .i64 ((p - 1 : Nat) : Int)),
        VIs (.int .u64 (x : Int)),
        VIs (.int .i64 sz),
        VIs (.int .u64 (K : Int)),
        VIs (.bool true)]) (by kernel_rfl) (by kernel_rfl) (by kernel_rfl) (LiftAll.at_ (.cons (VIs.lift _) (.cons (VIs.lift _) (.cons (VIs.lift _) (.cons (VIs.lift _) (.cons (VIs.lift _) (.cons (VIs.lift _) (.cons (VIs.lift _) (.cons (VIs.lift _) .nil))))))))) (steps_all (steps_cons ?_ (steps_cons ?_ (steps_cons ?_ (steps_cons ?_ (steps_cons ?_ (steps_cons ?_ (steps_cons ?_ (steps_cons ?_ steps_zero))))))))) ?fin
    · intro a0 w9 K9 hF hB hK hC
      have b8 := hF.base (k := 8) (v := .int .u64 (b : Int)) (by kernel_rfl) rfl
      clear hF hB hK
      go_simp
      exact hC _ _ (bel_refl _) fun _ _ => rfl
    · intro a0 w9 K9 hF hB hK hC
      have b1 := hF.base (k := 1) (v := .int .i64 sz) (by kernel_rfl) rfl
      clear hF hB hK
      go_simp
      exact hC _ _ (bel_refl _) fun _ _ => rfl
    · intro a0 w9 K9 hF hB hK hC
      obtain ⟨v60, e60, z60⟩ := dep hK 0 (g := .data) (j := 1) (k := 60) rfl rfl rfl
      have z60 : v60 = .int .i64 sz := z60
      subst z60
      have HB9 := Lib.hid hB
      clear hF hB hK
      go_simp
      refine (refMant_any HF.out _).mono ?_
      rintro e w7 ⟨rfl, hbl⟩
      exact hC _ _ hbl fun _ _ => rfl
    · intro a0 w9 K9 hF hB hK hC
      obtain ⟨v61, e61, z61⟩ := dep hK 0 (g := .data) (j := 2) (k := 61) rfl rfl rfl
      have z61 : v61 = .int .i64 (p : Int) := z61
      subst z61
      have HB9 := Lib.hid hB
      clear hF hB hK
      go_simp
      exact hC _ _ (bel_refl _) fun _ _ => rfl
    · intro a0 w9 K9 hF hB hK hC
      obtain ⟨v59, e59, z59⟩ := dep hK 0 (g := .data) (j := 0) (k := 59) rfl rfl rfl
      have z59 : v59 = .int .u64 (b : Int) := z59
      subst z59
      obtain ⟨v62, e62, z62⟩ := dep hK 1 (g := .data) (j := 3) (k := 62) rfl rfl rfl
      have z62 : v62 = .int .i64 ((p - 1 : Nat) : Int) := z62
      subst z62
      have HB9 := Lib.hid hB
      clear hF hB hK
      go_simp
      exact hC _ _ (bel_refl _) fun _ _ => rfl
    · intro a0 w9 K9 hF hB hK hC
      have b1 := hF.base (k := 1) (v := .int .i64 sz) (by kernel_rfl) rfl
      clear hF hB hK
      go_simp
      exact hC _ _ (bel_refl _) fun _ _ => rfl
    · intro a0 w9 K9 hF hB hK hC
      obtain ⟨v64, e64, z64⟩ := dep hK 0 (g := .data) (j := 5) (k := 64) rfl rfl rfl
      have z64 : v64 = .int .i64 sz := z64
      subst z64
      have HB9 := Lib.hid hB
      clear hF hB hK
      go_simp
      refine (refHigh_is3 HF.out _ HK.out).mono ?_
      rintro e w7 ⟨rfl, hbl⟩
      exact hC _ _ hbl fun _ _ => rfl
    · intro a0 w9 K9 hF hB hK hC
      obtain ⟨v63, e63, z63⟩ := dep hK 0 (g := .data) (j := 4) (k := 63) rfl rfl rfl
      have z63 : v63 = .int .u64 (x : Int) := z63
      subst z63
      obtain ⟨v65, e65, z65⟩ := dep hK 1 (g := .data) (j := 6) (k := 65) rfl rfl rfl
      have z65 : v65 = .int .u64 (K : Int) := z65
      subst z65
      have HB9 := Lib.hid hB
      clear hF hB hK
      go_simp
      exact hC _ _ (bel_refl _) fun _ _ => rfl
    case fin =>
      intro a0 w9 hF hB hK
      have b1 := hF.base (k := 1) (v := .int .i64 sz) (by kernel_rfl) rfl
      have b5 := hF.base (k := 5) (v := .pointer (some ⟨w1.heap.size, 0, none⟩)) (by kernel_rfl) rfl
      have b6 := hF.base (k := 6) (v := .int .i64 1) (by kernel_rfl) rfl
      have b7 := hF.base (k := 7) (v := .bool s) (by kernel_rfl) rfl
      have b8 := hF.base (k := 8) (v := .int .u64 (b : Int)) (by kernel_rfl) rfl
      have hsz := hF.size
      have hdf := hF.defers
      clear hF
      obtain ⟨v66, e66, z66⟩ := known hK 7 (k := 66) (by decide) rfl
      have z66 : v66 = .bool true := z66
      subst z66
      clear hK
      obtain ⟨⟨l0⟩, df⟩ := a0
      have hs0 : l0.length = 124 := hsz
      clear hsz
      replace hdf : df = _ := hdf
      subst hdf
      obtain ⟨u, rfl⟩ := lits_124 hs0
      clear hs0
      have q1 : u 1 = _ := Option.some.inj b1
      clear b1
      have q5 : u 5 = _ := Option.some.inj b5
      clear b5
      have q6 : u 6 = _ := Option.some.inj b6
      clear b6
      have q7 : u 7 = _ := Option.some.inj b7
      clear b7
      have q8 : u 8 = _ := Option.some.inj b8
      clear b8
      have q66 : u 66 = _ := Option.some.inj e66
      clear e66
      rw [q1, q5, q6, q7, q8, q66]
      clear q1 q5 q6 q7 q8 q66
      have hbl := hB; clear hB
      replace Ra := Lib.hid (Ra.out.below hbl)
      replace HNa := Lib.hid (HNa.out.below hbl)
      replace Re := Lib.hid (Re.out.below hbl)
      replace HNe := Lib.hid (HNe.out.below hbl)
      replace VX := Lib.hid (VX.out.below hbl VX.out.lt)
      replace HW := Lib.hid (bel_trans HW.out hbl); clear hbl
      clear VX0 VX1 VX2
      have VX0 : w9.cell? ⟨w1.heap.size, 0, none⟩ = some (.bool false) := VX.out.cell 0
      have VX1 : w9.cell? ⟨w1.heap.size, 1, none⟩ = some (.slice Aa 0 ca) := VX.out.cell 1
      have VX2 : w9.cell? ⟨w1.heap.size, 2, none⟩ = some (.slice Ae 0 ce) := VX.out.cell 2
      refine wpList_nil ?_
      go_wp2_with fail
      refine (alive3 _).mono ?_
      rintro e w4 ⟨rfl, hbl⟩
      replace Ra := Lib.hid (Ra.out.below hbl)
      replace HNa := Lib.hid (HNa.out.below hbl)
      replace Re := Lib.hid (Re.out.below hbl)
      replace HNe := Lib.hid (HNe.out.below hbl)
      replace VX := Lib.hid (VX.out.below hbl VX.out.lt)
      replace HW := Lib.hid (bel_trans HW.out hbl); clear hbl
      clear VX0 VX1 VX2
      have VX0 : w4.cell? ⟨w1.heap.size, 0, none⟩ = some (.bool false) := VX.out.cell 0
      have VX1 : w4.cell? ⟨w1.heap.size, 1, none⟩ = some (.slice Aa 0 ca) := VX.out.cell 1
      have VX2 : w4.cell? ⟨w1.heap.size, 2, none⟩ = some (.slice Ae 0 ce) := VX.out.cell 2
      go_wp2_with fail
      refine (same_none Aa Ae ca ce _).mono ?_
      rintro e w5 ⟨rfl, hbl⟩
      replace Ra := Lib.hid (Ra.out.below hbl)
      replace HNa := Lib.hid (HNa.out.below hbl)
      replace Re := Lib.hid (Re.out.below hbl)
      replace HNe := Lib.hid (HNe.out.below hbl)
      replace VX := Lib.hid (VX.out.below hbl VX.out.lt)
      replace HW := Lib.hid (bel_trans HW.out hbl); clear hbl
      clear VX0 VX1 VX2
      have VX0 : w5.cell? ⟨w1.heap.size, 0, none⟩ = some (.bool false) := VX.out.cell 0
      have VX1 : w5.cell? ⟨w1.heap.size, 1, none⟩ = some (.slice Aa 0 ca) := VX.out.cell 1
      have VX2 : w5.cell? ⟨w1.heap.size, 2, none⟩ = some (.slice Ae 0 ce) := VX.out.cell 2
      go_wp2
      go_ret
      exact ⟨rfl, HW.out⟩

set_option maxRecDepth 100000 in
set_option maxHeartbeats 1000000 in
theorem values_ones_t {p q t : Nat} {b : Nat} {s : Bool} (N : Nat) (sz : Int) (w : World) (hv : ∀ w1, Calls Try.prog 47 #[.int .u64 (N : Int), .int .i64 sz] w1 (RetQE noQ 1 w1)) (hf : Fm sz p q t) (zz : (sz == 32) = true) (hbZ : b < 2 ^ (sz.toNat - 1)) (hs : b = 0 → s = false) (hN : N = b + s.toNat * 2 ^ (sz.toNat - 1)) (h1 : b / 2 ^ (p - 1) = t + q + 2) :
    Calls Try.prog 9 #[.int .u64 (N : Int), .int .i64 sz] w (RetT w) := by
  have HV := Lib.hid hv; clear hv
  have HZ := Lib.hid zz; clear zz
  obtain ⟨op1, op2, oq0, oq, ot, os1, os2⟩ := hf.ok
  have HF := Lib.hid hf; clear hf
  obtain ⟨z, hz3⟩ : ∃ z : Nat, sz = (z : Int) + 1 := ⟨sz.toNat - 1, by omega⟩
  have hz63 : z ≤ 63 := by omega
  have hzz : sz.toNat - 1 = z := by omega
  rw [hzz] at hbZ hN
  obtain ⟨Z, hZ⟩ : ∃ Z, Z = 2 ^ z := ⟨_, rfl⟩
  obtain ⟨H, hH⟩ : ∃ H, H = 2 ^ (p - 1) := ⟨_, rfl⟩
  obtain ⟨K, hK⟩ : ∃ K, K = t + q + 2 := ⟨_, rfl⟩
  have hZ1 : Z ≤ 9223372036854775808 := by rw [hZ]; exact Nat.pow_le_pow_right (n := 2) (j := 63) (by decide) hz63
  obtain ⟨SZ, hSZ⟩ : ∃ S, S = s.toNat * Z := ⟨_, rfl⟩
  have hsz : SZ ≤ Z := by rw [hSZ]; have := Nat.mul_le_mul_right Z (Bool.toNat_le s); omega
  have hbZ2 := hbZ
  have hN2 := hN
  rw [← hZ] at hbZ hN
  rw [← hSZ] at hN
  have hNlt : N < 18446744073709551616 := by omega
  have a1 : bits BinOp.and IntKind.u64 (N : Int) (Z : Int) = (SZ : Int) := by rw [u64_and_nat _ _ hNlt (by omega), hN2, hZ, and_high hbZ2, hSZ, hZ]
  have a2 : ((SZ : Int) != 0) = s := by
    rw [hSZ]
    have : 0 < Z := by rw [hZ]; exact Nat.pow_pos (by decide)
    cases s
    · simp
    · simp; omega
  have a3 : bits BinOp.andNot IntKind.u64 (N : Int) (Z : Int) = (b : Int) := by rw [u64_andNot_nat _ _ hNlt (by omega), hN2, hZ, andNot_high hbZ2 hz63]
  have hNZ : N ≠ Z := by
    have h0 : 0 < Z := by rw [hZ]; exact Nat.pow_pos (by decide)
    cases s
    · rw [hN, hSZ]; simp; omega
    · have : b ≠ 0 := fun h => by have := hs h; cases this
      rw [hN, hSZ]; simp; omega
  have a4 : ((N : Int) == (Z : Int)) = false := by simp only [beq_eq_false_iff_ne, ne_eq]; omega
  have a5 : ¬ (N : Int) = (Z : Int) := by omega
  obtain ⟨x, hx⟩ : ∃ x, x = b / H := ⟨_, rfl⟩
  have a6 : IntKind.i64.wrap ((p : Int) - 1) = ((p - 1 : Nat) : Int) := by rw [IntKind.wrap_i64]; omega
  have a7 : (2 : Int) ^ (p - 1) = (H : Int) := by rw [hH, Int.natCast_pow]; rfl
  have a8 : (b : Int) / (H : Int) = (x : Int) := by rw [hx]; exact (Int.natCast_ediv b H).symm
  have hxK : x = K := by rw [hx, hH, hK]; exact h1
  have a9 : ((x : Int) == (K : Int)) = true := by rw [hxK]; simp
  clear hxK h1
  have HN32 : Hid (sz = 32 → N < 4294967296) := by
    show sz = 32 → N < 4294967296
    intro h
    obtain rfl : z = 31 := by omega
    rw [show (2 : Nat) ^ 31 = 2147483648 from rfl] at hZ
    omega
  have HHZ := Lib.hid (show Z = 2 ^ (sz.toNat - 1) by rw [hzz]; exact hZ)
  have HK := Lib.hid hK; clear hK
  clear hz3 hz63 hzz hZ hH hZ1 hSZ hsz hbZ2 hN2 hN hNlt hNZ hx hbZ hs
  have HW := Lib.hid (bel_refl w)
  go_enter Try.func9, Try.ntmps9
  go_wp2_with fail
  refine (HV.out _).mono ?_
  rintro e w1 ⟨va, ve, rfl, hna, hne, hbl⟩
  replace HW := Lib.hid (bel_trans HW.out hbl); clear hbl
  have HNa := Lib.hid hna; clear hna
  obtain ⟨Aa, ca, rfl, hca, hra⟩ := HNa.out.row
  have Ra := Lib.hid hra; have HCa := Lib.hid hca; clear hra hca
  have HNe := Lib.hid hne; clear hne
  obtain ⟨Ae, ce, rfl, hce, hre⟩ := HNe.out.row
  have Re := Lib.hid hre; have HCe := Lib.hid hce; clear hre hce
  rw [show noQ.s = false from rfl, show noQ.n = 0 from rfl, show noQ.d = 0 from rfl, limbs0]
  go_upto_region 2 with fail
  obtain ⟨wm, hwm⟩ : ∃ wm, wm = w1.alloc (.cells #[.bool false, .slice Aa 0 ca, .slice Ae 0 ce] 25) := ⟨_, rfl⟩
  rw [← hwm]
  have hbl : Below w1.heap.size w1 wm := by rw [hwm]; exact bel_alloc (bel_refl _) _
  have VX : Blk wm (w1.heap.size) 25 #[.bool false, .slice Aa 0 ca, .slice Ae 0 ce] := by
    have hz := Blk.new (w1) 25 #[.bool false, .slice Aa 0 ca, .slice Ae 0 ce]
    rw [hwm]
    exact hz
  clear hwm
  replace Ra := Lib.hid (Ra.out.below hbl)
  replace HNa := Lib.hid (HNa.out.below hbl)
  replace Re := Lib.hid (Re.out.below hbl)
  replace HNe := Lib.hid (HNe.out.below hbl)
  replace HW := Lib.hid (bel_trans HW.out hbl); clear hbl
  replace VX := Lib.hid VX
  have VX0 : wm.cell? ⟨w1.heap.size, 0, none⟩ = some (.bool false) := VX.out.cell 0
  have VX1 : wm.cell? ⟨w1.heap.size, 1, none⟩ = some (.slice Aa 0 ca) := VX.out.cell 1
  have VX2 : wm.cell? ⟨w1.heap.size, 2, none⟩ = some (.slice Ae 0 ce) := VX.out.cell 2
  go_cut [39] (fun v wx => v = .bool false ∧ Below wm.heap.size wm wx)
  case first =>
    obtain rfl : sz = 32 := by simpa using HZ.out
    have g1 : (N : Int) / 4294967296 = 0 := by have := HN32.out rfl; omega
    go_wp2_with fail
    refine (high3_any HF.out _ (H := Z) HHZ.out).mono ?_
    rintro e w7 ⟨rfl, hbl⟩
    have H7 := Lib.hid hbl; clear hbl
    go_wp2_with fail
    go_meet
    exact ⟨rfl, H7.out⟩
  case rest =>
    obtain ⟨rfl, hbl⟩ := hcut
    replace Ra := Lib.hid (Ra.out.below hbl)
    replace HNa := Lib.hid (HNa.out.below hbl)
    replace Re := Lib.hid (Re.out.below hbl)
    replace HNe := Lib.hid (HNe.out.below hbl)
    replace VX := Lib.hid (VX.out.below hbl VX.out.lt)
    replace HW := Lib.hid (bel_trans HW.out hbl); clear hbl
    clear VX0 VX1 VX2
    have VX0 : wc.cell? ⟨w1.heap.size, 0, none⟩ = some (.bool false) := VX.out.cell 0
    have VX1 : wc.cell? ⟨w1.heap.size, 1, none⟩ = some (.slice Aa 0 ca) := VX.out.cell 1
    have VX2 : wc.cell? ⟨w1.heap.size, 2, none⟩ = some (.slice Ae 0 ce) := VX.out.cell 2
    go_wp2_with fail
    refine (high3_any HF.out _ HHZ.out).mono ?_
    rintro e w2 ⟨rfl, hbl⟩
    replace Ra := Lib.hid (Ra.out.below hbl)
    replace HNa := Lib.hid (HNa.out.below hbl)
    replace Re := Lib.hid (Re.out.below hbl)
    replace HNe := Lib.hid (HNe.out.below hbl)
    replace VX := Lib.hid (VX.out.below hbl VX.out.lt)
    replace HW := Lib.hid (bel_trans HW.out hbl); clear hbl
    clear VX0 VX1 VX2
    have VX0 : w2.cell? ⟨w1.heap.size, 0, none⟩ = some (.bool false) := VX.out.cell 0
    have VX1 : w2.cell? ⟨w1.heap.size, 1, none⟩ = some (.slice Aa 0 ca) := VX.out.cell 1
    have VX2 : w2.cell? ⟨w1.heap.size, 2, none⟩ = some (.slice Ae 0 ce) := VX.out.cell 2
    go_wp2_with fail
    refine (high3_any HF.out _ HHZ.out).mono ?_
    rintro e w3 ⟨rfl, hbl⟩
    replace Ra := Lib.hid (Ra.out.below hbl)
    replace HNa := Lib.hid (HNa.out.below hbl)
    replace Re := Lib.hid (Re.out.below hbl)
    replace HNe := Lib.hid (HNe.out.below hbl)
    replace VX := Lib.hid (VX.out.below hbl VX.out.lt)
    replace HW := Lib.hid (bel_trans HW.out hbl); clear hbl
    clear VX0 VX1 VX2
    have VX0 : w3.cell? ⟨w1.heap.size, 0, none⟩ = some (.bool false) := VX.out.cell 0
    have VX1 : w3.cell? ⟨w1.heap.size, 1, none⟩ = some (.slice Aa 0 ca) := VX.out.cell 1
    have VX2 : w3.cell? ⟨w1.heap.size, 2, none⟩ = some (.slice Ae 0 ce) := VX.out.cell 2
    go_upto_region 5 with fail
    refine wp_region_typed 8 (TOf [VIs (.int .u64 (b : Int)),
        VIs (.int .i64 sz),
        VIs (.int .i64 (p : Int)),
        VIs (.int .i64 ((p - 1 : Nat) : Int)),
        VIs (.int .u64 (x : Int)),
        VIs (.int .i64 sz),
        VIs (.int .u64 (K : Int)),
        VIs (.bool true)]) (by kernel_rfl) (by kernel_rfl) (by kernel_rfl) (LiftAll.at_ (.cons (VIs.lift _) (.cons (VIs.lift _) (.cons (VIs.lift _) (.cons (VIs.lift _) (.cons (VIs.lift _) (.cons (VIs.lift _) (.cons (VIs.lift _) (.cons (VIs.lift _) .nil))))))))) (steps_all (steps_cons ?_ (steps_cons ?_ (steps_cons ?_ (steps_cons ?_ (steps_cons ?_ (steps_cons ?_ (steps_cons ?_ (steps_cons ?_ steps_zero))))))))) ?fin
    · intro a0 w9 K9 hF hB hK hC
      have b8 := hF.base (k := 8) (v := .int .u64 (b : Int)) (by kernel_rfl) rfl
      clear hF hB hK
      go_simp
      exact hC _ _ (bel_refl _) fun _ _ => rfl
    · intro a0 w9 K9 hF hB hK hC
      have b1 := hF.base (k := 1) (v := .int .i64 sz) (by kernel_rfl) rfl
      clear hF hB hK
      go_simp
      exact hC _ _ (bel_refl _) fun _ _ => rfl
    · intro a0 w9 K9 hF hB hK hC
      obtain ⟨v60, e60, z60⟩ := dep hK 0 (g := .data) (j := 1) (k := 60) rfl rfl rfl
      have z60 : v60 = .int .i64 sz := z60
      subst z60
      have HB9 := Lib.hid hB
      clear hF hB hK
      go_simp
      refine (refMant_any HF.out _).mono ?_
      rintro e w7 ⟨rfl, hbl⟩
      exact hC _ _ hbl fun _ _ => rfl
    · intro a0 w9 K9 hF hB hK hC
      obtain ⟨v61, e61, z61⟩ := dep hK 0 (g := .data) (j := 2) (k := 61) rfl rfl rfl
      have z61 : v61 = .int .i64 (p : Int) := z61
      subst z61
      have HB9 := Lib.hid hB
      clear hF hB hK
      go_simp
      exact hC _ _ (bel_refl _) fun _ _ => rfl
    · intro a0 w9 K9 hF hB hK hC
      obtain ⟨v59, e59, z59⟩ := dep hK 0 (g := .data) (j := 0) (k := 59) rfl rfl rfl
      have z59 : v59 = .int .u64 (b : Int) := z59
      subst z59
      obtain ⟨v62, e62, z62⟩ := dep hK 1 (g := .data) (j := 3) (k := 62) rfl rfl rfl
      have z62 : v62 = .int .i64 ((p - 1 : Nat) : Int) := z62
      subst z62
      have HB9 := Lib.hid hB
      clear hF hB hK
      go_simp
      exact hC _ _ (bel_refl _) fun _ _ => rfl
    · intro a0 w9 K9 hF hB hK hC
      have b1 := hF.base (k := 1) (v := .int .i64 sz) (by kernel_rfl) rfl
      clear hF hB hK
      go_simp
      exact hC _ _ (bel_refl _) fun _ _ => rfl
    · intro a0 w9 K9 hF hB hK hC
      obtain ⟨v64, e64, z64⟩ := dep hK 0 (g := .data) (j := 5) (k := 64) rfl rfl rfl
      have z64 : v64 = .int .i64 sz := z64
      subst z64
      have HB9 := Lib.hid hB
      clear hF hB hK
      go_simp
      refine (refHigh_is3 HF.out _ HK.out).mono ?_
      rintro e w7 ⟨rfl, hbl⟩
      exact hC _ _ hbl fun _ _ => rfl
    · intro a0 w9 K9 hF hB hK hC
      obtain ⟨v63, e63, z63⟩ := dep hK 0 (g := .data) (j := 4) (k := 63) rfl rfl rfl
      have z63 : v63 = .int .u64 (x : Int) := z63
      subst z63
      obtain ⟨v65, e65, z65⟩ := dep hK 1 (g := .data) (j := 6) (k := 65) rfl rfl rfl
      have z65 : v65 = .int .u64 (K : Int) := z65
      subst z65
      have HB9 := Lib.hid hB
      clear hF hB hK
      go_simp
      exact hC _ _ (bel_refl _) fun _ _ => rfl
    case fin =>
      intro a0 w9 hF hB hK
      have b1 := hF.base (k := 1) (v := .int .i64 sz) (by kernel_rfl) rfl
      have b5 := hF.base (k := 5) (v := .pointer (some ⟨w1.heap.size, 0, none⟩)) (by kernel_rfl) rfl
      have b6 := hF.base (k := 6) (v := .int .i64 1) (by kernel_rfl) rfl
      have b7 := hF.base (k := 7) (v := .bool s) (by kernel_rfl) rfl
      have b8 := hF.base (k := 8) (v := .int .u64 (b : Int)) (by kernel_rfl) rfl
      have hsz := hF.size
      have hdf := hF.defers
      clear hF
      obtain ⟨v66, e66, z66⟩ := known hK 7 (k := 66) (by decide) rfl
      have z66 : v66 = .bool true := z66
      subst z66
      clear hK
      obtain ⟨⟨l0⟩, df⟩ := a0
      have hs0 : l0.length = 124 := hsz
      clear hsz
      replace hdf : df = _ := hdf
      subst hdf
      obtain ⟨u, rfl⟩ := lits_124 hs0
      clear hs0
      have q1 : u 1 = _ := Option.some.inj b1
      clear b1
      have q5 : u 5 = _ := Option.some.inj b5
      clear b5
      have q6 : u 6 = _ := Option.some.inj b6
      clear b6
      have q7 : u 7 = _ := Option.some.inj b7
      clear b7
      have q8 : u 8 = _ := Option.some.inj b8
      clear b8
      have q66 : u 66 = _ := Option.some.inj e66
      clear e66
      rw [q1, q5, q6, q7, q8, q66]
      clear q1 q5 q6 q7 q8 q66
      have hbl := hB; clear hB
      replace Ra := Lib.hid (Ra.out.below hbl)
      replace HNa := Lib.hid (HNa.out.below hbl)
      replace Re := Lib.hid (Re.out.below hbl)
      replace HNe := Lib.hid (HNe.out.below hbl)
      replace VX := Lib.hid (VX.out.below hbl VX.out.lt)
      replace HW := Lib.hid (bel_trans HW.out hbl); clear hbl
      clear VX0 VX1 VX2
      have VX0 : w9.cell? ⟨w1.heap.size, 0, none⟩ = some (.bool false) := VX.out.cell 0
      have VX1 : w9.cell? ⟨w1.heap.size, 1, none⟩ = some (.slice Aa 0 ca) := VX.out.cell 1
      have VX2 : w9.cell? ⟨w1.heap.size, 2, none⟩ = some (.slice Ae 0 ce) := VX.out.cell 2
      refine wpList_nil ?_
      go_wp2_with fail
      refine (alive3 _).mono ?_
      rintro e w4 ⟨rfl, hbl⟩
      replace Ra := Lib.hid (Ra.out.below hbl)
      replace HNa := Lib.hid (HNa.out.below hbl)
      replace Re := Lib.hid (Re.out.below hbl)
      replace HNe := Lib.hid (HNe.out.below hbl)
      replace VX := Lib.hid (VX.out.below hbl VX.out.lt)
      replace HW := Lib.hid (bel_trans HW.out hbl); clear hbl
      clear VX0 VX1 VX2
      have VX0 : w4.cell? ⟨w1.heap.size, 0, none⟩ = some (.bool false) := VX.out.cell 0
      have VX1 : w4.cell? ⟨w1.heap.size, 1, none⟩ = some (.slice Aa 0 ca) := VX.out.cell 1
      have VX2 : w4.cell? ⟨w1.heap.size, 2, none⟩ = some (.slice Ae 0 ce) := VX.out.cell 2
      go_wp2_with fail
      refine (same_none Aa Ae ca ce _).mono ?_
      rintro e w5 ⟨rfl, hbl⟩
      replace Ra := Lib.hid (Ra.out.below hbl)
      replace HNa := Lib.hid (HNa.out.below hbl)
      replace Re := Lib.hid (Re.out.below hbl)
      replace HNe := Lib.hid (HNe.out.below hbl)
      replace VX := Lib.hid (VX.out.below hbl VX.out.lt)
      replace HW := Lib.hid (bel_trans HW.out hbl); clear hbl
      clear VX0 VX1 VX2
      have VX0 : w5.cell? ⟨w1.heap.size, 0, none⟩ = some (.bool false) := VX.out.cell 0
      have VX1 : w5.cell? ⟨w1.heap.size, 1, none⟩ = some (.slice Aa 0 ca) := VX.out.cell 1
      have VX2 : w5.cell? ⟨w1.heap.size, 2, none⟩ = some (.slice Ae 0 ce) := VX.out.cell 2
      go_wp2
      go_ret
      exact ⟨rfl, HW.out⟩

set_option maxRecDepth 100000 in
set_option maxHeartbeats 1000000 in
theorem values_ovn_f {p q t : Nat} {b : Nat} {s : Bool} {n1 d1 : Nat} (N : Nat) (sz : Int) (w : World) (hv : ∀ w1, Calls Try.prog 47 #[.int .u64 (N : Int), .int .i64 sz] w1 (RetQE noQ 2 w1)) (hf : Fm sz p q t) (zz : (sz == 32) = false) (hbZ : b < 2 ^ (sz.toNat - 1)) (hs : b = 0 → s = false) (hN : N = b + s.toNat * 2 ^ (sz.toNat - 1)) (hb : ¬ (t + q + 2) * 2 ^ (p - 1) ≤ b) (hn1 : LN p q b = n1) (hd1 : LD p q b = d1) (ho : Top ≤ n1) :
    Calls Try.prog 9 #[.int .u64 (N : Int), .int .i64 sz] w (RetT w) := by
  have HV := Lib.hid hv; clear hv
  have HZ := Lib.hid zz; clear zz
  obtain ⟨op1, op2, oq0, oq, ot, os1, os2⟩ := hf.ok
  have HF := Lib.hid hf; clear hf
  obtain ⟨z, hz3⟩ : ∃ z : Nat, sz = (z : Int) + 1 := ⟨sz.toNat - 1, by omega⟩
  have hz63 : z ≤ 63 := by omega
  have hzz : sz.toNat - 1 = z := by omega
  rw [hzz] at hbZ hN
  obtain ⟨Z, hZ⟩ : ∃ Z, Z = 2 ^ z := ⟨_, rfl⟩
  obtain ⟨H, hH⟩ : ∃ H, H = 2 ^ (p - 1) := ⟨_, rfl⟩
  obtain ⟨K, hK⟩ : ∃ K, K = t + q + 2 := ⟨_, rfl⟩
  have hZ1 : Z ≤ 9223372036854775808 := by rw [hZ]; exact Nat.pow_le_pow_right (n := 2) (j := 63) (by decide) hz63
  obtain ⟨SZ, hSZ⟩ : ∃ S, S = s.toNat * Z := ⟨_, rfl⟩
  have hsz : SZ ≤ Z := by rw [hSZ]; have := Nat.mul_le_mul_right Z (Bool.toNat_le s); omega
  have hbZ2 := hbZ
  have hN2 := hN
  rw [← hZ] at hbZ hN
  rw [← hSZ] at hN
  have hNlt : N < 18446744073709551616 := by omega
  have a1 : bits BinOp.and IntKind.u64 (N : Int) (Z : Int) = (SZ : Int) := by rw [u64_and_nat _ _ hNlt (by omega), hN2, hZ, and_high hbZ2, hSZ, hZ]
  have a2 : ((SZ : Int) != 0) = s := by
    rw [hSZ]
    have : 0 < Z := by rw [hZ]; exact Nat.pow_pos (by decide)
    cases s
    · simp
    · simp; omega
  have a3 : bits BinOp.andNot IntKind.u64 (N : Int) (Z : Int) = (b : Int) := by rw [u64_andNot_nat _ _ hNlt (by omega), hN2, hZ, andNot_high hbZ2 hz63]
  have hNZ : N ≠ Z := by
    have h0 : 0 < Z := by rw [hZ]; exact Nat.pow_pos (by decide)
    cases s
    · rw [hN, hSZ]; simp; omega
    · have : b ≠ 0 := fun h => by have := hs h; cases this
      rw [hN, hSZ]; simp; omega
  have a4 : ((N : Int) == (Z : Int)) = false := by simp only [beq_eq_false_iff_ne, ne_eq]; omega
  have a5 : ¬ (N : Int) = (Z : Int) := by omega
  obtain ⟨x, hx⟩ : ∃ x, x = b / H := ⟨_, rfl⟩
  have a6 : IntKind.i64.wrap ((p : Int) - 1) = ((p - 1 : Nat) : Int) := by rw [IntKind.wrap_i64]; omega
  have a7 : (2 : Int) ^ (p - 1) = (H : Int) := by rw [hH, Int.natCast_pow]; rfl
  have a8 : (b : Int) / (H : Int) = (x : Int) := by rw [hx]; exact (Int.natCast_ediv b H).symm
  have hxK : x ≠ K := by rw [hx, hK]; intro h; refine hb ?_; rw [← h, ← hH]; exact Nat.div_mul_le_self b H
  have a9 : ((x : Int) == (K : Int)) = false := by simp only [beq_eq_false_iff_ne, ne_eq]; omega
  clear hxK
  have HHZ := Lib.hid (show Z = 2 ^ (sz.toNat - 1) by rw [hzz]; exact hZ)
  have HK := Lib.hid hK; clear hK
  clear hz3 hz63 hzz hZ hH hZ1 hSZ hsz hbZ2 hN2 hN hNlt hNZ hx hbZ hs
  have hble : b ≤ (t + q + 2) * 2 ^ (p - 1) := by omega
  obtain ⟨an_, han⟩ : ∃ a, FN p q b = a := ⟨_, rfl⟩
  obtain ⟨cn_, hcn⟩ : ∃ a, FD p q b = a := ⟨_, rfl⟩
  obtain ⟨g, hg⟩ : ∃ g, Nat.gcd an_ cn_ = g := ⟨_, rfl⟩
  have l1 := FN_len HF.out hble
  have l2 := FD_len (b := b) HF.out
  have hc0p := FD_pos p q b
  rw [han] at l1
  rw [hcn] at l2 hc0p
  have hgl : (decL g).length ≤ 340 := Nat.le_trans (decL_mono (by rw [← hg]; exact Nat.gcd_le_right an_ hc0p)) l2
  have hg0 : g ≠ 0 := by rw [← hg]; exact Nat.ne_of_gt (Nat.gcd_pos_of_pos_right _ hc0p)
  have hq1 : an_ / g = n1 := by rw [← hn1, ← hg, ← han, ← hcn]; rfl
  have hq2 : cn_ / g = d1 := by rw [← hd1, ← hg, ← han, ← hcn]; rfl
  obtain ⟨r1, hr1⟩ : ∃ r, an_ % g = r := ⟨_, rfl⟩
  obtain ⟨r2, hr2⟩ : ∃ r, cn_ % g = r := ⟨_, rfl⟩
  have HG := Lib.hid (And.intro hble (And.intro han (And.intro hcn (And.intro hg (And.intro l1 (And.intro l2 (And.intro hgl (And.intro hg0 (And.intro hq1 (And.intro hq2 (And.intro hr1 hr2))))))))))); clear hble han hcn hg l1 l2 hc0p hgl hg0 hq1 hq2 hr1 hr2 hb hn1 hd1
  have HO := Lib.hid (decide_eq_true ho); clear ho
  have hfd1 := fun W => field_q (dec n1) (dec r1) W
  have hfd2 := fun W => field_q (dec d1) (dec r2) W
  have HW := Lib.hid (bel_refl w)
  go_enter Try.func9, Try.ntmps9
  go_wp2_with fail
  refine (HV.out _).mono ?_
  rintro e w1 ⟨va, ve, rfl, hna, hne, hbl⟩
  replace HW := Lib.hid (bel_trans HW.out hbl); clear hbl
  have HNa := Lib.hid hna; clear hna
  obtain ⟨Aa, ca, rfl, hca, hra⟩ := HNa.out.row
  have Ra := Lib.hid hra; have HCa := Lib.hid hca; clear hra hca
  have HNe := Lib.hid hne; clear hne
  obtain ⟨Ae, ce, rfl, hce, hre⟩ := HNe.out.row
  have Re := Lib.hid hre; have HCe := Lib.hid hce; clear hre hce
  rw [show noQ.s = false from rfl, show noQ.n = 0 from rfl, show noQ.d = 0 from rfl, limbs0]
  go_upto_region 2 with fail
  obtain ⟨wm, hwm⟩ : ∃ wm, wm = w1.alloc (.cells #[.bool false, .slice Aa 0 ca, .slice Ae 0 ce] 25) := ⟨_, rfl⟩
  rw [← hwm]
  have hbl : Below w1.heap.size w1 wm := by rw [hwm]; exact bel_alloc (bel_refl _) _
  have VX : Blk wm (w1.heap.size) 25 #[.bool false, .slice Aa 0 ca, .slice Ae 0 ce] := by
    have hz := Blk.new (w1) 25 #[.bool false, .slice Aa 0 ca, .slice Ae 0 ce]
    rw [hwm]
    exact hz
  clear hwm
  replace Ra := Lib.hid (Ra.out.below hbl)
  replace HNa := Lib.hid (HNa.out.below hbl)
  replace Re := Lib.hid (Re.out.below hbl)
  replace HNe := Lib.hid (HNe.out.below hbl)
  replace HW := Lib.hid (bel_trans HW.out hbl); clear hbl
  replace VX := Lib.hid VX
  have VX0 : wm.cell? ⟨w1.heap.size, 0, none⟩ = some (.bool false) := VX.out.cell 0
  have VX1 : wm.cell? ⟨w1.heap.size, 1, none⟩ = some (.slice Aa 0 ca) := VX.out.cell 1
  have VX2 : wm.cell? ⟨w1.heap.size, 2, none⟩ = some (.slice Ae 0 ce) := VX.out.cell 2
  go_cut [39] (fun v wx => v = .bool false ∧ Below wm.heap.size wm wx)
  case first =>
    obtain rfl : sz = 64 := by rcases HF.out with h | h; have h2 := HZ.out; rw [h.1] at h2; cases h2; exact h.1
    go_wp2_with fail
    refine (high3_any HF.out _ (H := Z) HHZ.out).mono ?_
    rintro e w7 ⟨rfl, hbl⟩
    have H7 := Lib.hid hbl; clear hbl
    go_wp2_with fail
    go_meet
    exact ⟨rfl, H7.out⟩
  case rest =>
    obtain ⟨rfl, hbl⟩ := hcut
    replace Ra := Lib.hid (Ra.out.below hbl)
    replace HNa := Lib.hid (HNa.out.below hbl)
    replace Re := Lib.hid (Re.out.below hbl)
    replace HNe := Lib.hid (HNe.out.below hbl)
    replace VX := Lib.hid (VX.out.below hbl VX.out.lt)
    replace HW := Lib.hid (bel_trans HW.out hbl); clear hbl
    clear VX0 VX1 VX2
    have VX0 : wc.cell? ⟨w1.heap.size, 0, none⟩ = some (.bool false) := VX.out.cell 0
    have VX1 : wc.cell? ⟨w1.heap.size, 1, none⟩ = some (.slice Aa 0 ca) := VX.out.cell 1
    have VX2 : wc.cell? ⟨w1.heap.size, 2, none⟩ = some (.slice Ae 0 ce) := VX.out.cell 2
    go_wp2_with fail
    refine (high3_any HF.out _ HHZ.out).mono ?_
    rintro e w2 ⟨rfl, hbl⟩
    replace Ra := Lib.hid (Ra.out.below hbl)
    replace HNa := Lib.hid (HNa.out.below hbl)
    replace Re := Lib.hid (Re.out.below hbl)
    replace HNe := Lib.hid (HNe.out.below hbl)
    replace VX := Lib.hid (VX.out.below hbl VX.out.lt)
    replace HW := Lib.hid (bel_trans HW.out hbl); clear hbl
    clear VX0 VX1 VX2
    have VX0 : w2.cell? ⟨w1.heap.size, 0, none⟩ = some (.bool false) := VX.out.cell 0
    have VX1 : w2.cell? ⟨w1.heap.size, 1, none⟩ = some (.slice Aa 0 ca) := VX.out.cell 1
    have VX2 : w2.cell? ⟨w1.heap.size, 2, none⟩ = some (.slice Ae 0 ce) := VX.out.cell 2
    go_wp2_with fail
    refine (high3_any HF.out _ HHZ.out).mono ?_
    rintro e w3 ⟨rfl, hbl⟩
    replace Ra := Lib.hid (Ra.out.below hbl)
    replace HNa := Lib.hid (HNa.out.below hbl)
    replace Re := Lib.hid (Re.out.below hbl)
    replace HNe := Lib.hid (HNe.out.below hbl)
    replace VX := Lib.hid (VX.out.below hbl VX.out.lt)
    replace HW := Lib.hid (bel_trans HW.out hbl); clear hbl
    clear VX0 VX1 VX2
    have VX0 : w3.cell? ⟨w1.heap.size, 0, none⟩ = some (.bool false) := VX.out.cell 0
    have VX1 : w3.cell? ⟨w1.heap.size, 1, none⟩ = some (.slice Aa 0 ca) := VX.out.cell 1
    have VX2 : w3.cell? ⟨w1.heap.size, 2, none⟩ = some (.slice Ae 0 ce) := VX.out.cell 2
    go_upto_region 5 with fail
    refine wp_region_typed 8 (TOf [VIs (.int .u64 (b : Int)),
        VIs (.int .i64 sz),
        VIs (.int .i64 (p : Int)),
        VIs (.int .i64 ((p - 1 : Nat) : Int)),
        VIs (.int .u64 (x : Int)),
        VIs (.int .i64 sz),
        VIs (.int .u64 (K : Int)),
        VIs (.bool false)]) (by kernel_rfl) (by kernel_rfl) (by kernel_rfl) (LiftAll.at_ (.cons (VIs.lift _) (.cons (VIs.lift _) (.cons (VIs.lift _) (.cons (VIs.lift _) (.cons (VIs.lift _) (.cons (VIs.lift _) (.cons (VIs.lift _) (.cons (VIs.lift _) .nil))))))))) (steps_all (steps_cons ?_ (steps_cons ?_ (steps_cons ?_ (steps_cons ?_ (steps_cons ?_ (steps_cons ?_ (steps_cons ?_ (steps_cons ?_ steps_zero))))))))) ?fin
    · intro a0 w9 K9 hF hB hK hC
      have b8 := hF.base (k := 8) (v := .int .u64 (b : Int)) (by kernel_rfl) rfl
      clear hF hB hK
      go_simp
      exact hC _ _ (bel_refl _) fun _ _ => rfl
    · intro a0 w9 K9 hF hB hK hC
      have b1 := hF.base (k := 1) (v := .int .i64 sz) (by kernel_rfl) rfl
      clear hF hB hK
      go_simp
      exact hC _ _ (bel_refl _) fun _ _ => rfl
    · intro a0 w9 K9 hF hB hK hC
      obtain ⟨v60, e60, z60⟩ := dep hK 0 (g := .data) (j := 1) (k := 60) rfl rfl rfl
      have z60 : v60 = .int .i64 sz := z60
      subst z60
      have HB9 := Lib.hid hB
      clear hF hB hK
      go_simp
      refine (refMant_any HF.out _).mono ?_
      rintro e w7 ⟨rfl, hbl⟩
      exact hC _ _ hbl fun _ _ => rfl
    · intro a0 w9 K9 hF hB hK hC
      obtain ⟨v61, e61, z61⟩ := dep hK 0 (g := .data) (j := 2) (k := 61) rfl rfl rfl
      have z61 : v61 = .int .i64 (p : Int) := z61
      subst z61
      have HB9 := Lib.hid hB
      clear hF hB hK
      go_simp
      exact hC _ _ (bel_refl _) fun _ _ => rfl
    · intro a0 w9 K9 hF hB hK hC
      obtain ⟨v59, e59, z59⟩ := dep hK 0 (g := .data) (j := 0) (k := 59) rfl rfl rfl
      have z59 : v59 = .int .u64 (b : Int) := z59
      subst z59
      obtain ⟨v62, e62, z62⟩ := dep hK 1 (g := .data) (j := 3) (k := 62) rfl rfl rfl
      have z62 : v62 = .int .i64 ((p - 1 : Nat) : Int) := z62
      subst z62
      have HB9 := Lib.hid hB
      clear hF hB hK
      go_simp
      exact hC _ _ (bel_refl _) fun _ _ => rfl
    · intro a0 w9 K9 hF hB hK hC
      have b1 := hF.base (k := 1) (v := .int .i64 sz) (by kernel_rfl) rfl
      clear hF hB hK
      go_simp
      exact hC _ _ (bel_refl _) fun _ _ => rfl
    · intro a0 w9 K9 hF hB hK hC
      obtain ⟨v64, e64, z64⟩ := dep hK 0 (g := .data) (j := 5) (k := 64) rfl rfl rfl
      have z64 : v64 = .int .i64 sz := z64
      subst z64
      have HB9 := Lib.hid hB
      clear hF hB hK
      go_simp
      refine (refHigh_is3 HF.out _ HK.out).mono ?_
      rintro e w7 ⟨rfl, hbl⟩
      exact hC _ _ hbl fun _ _ => rfl
    · intro a0 w9 K9 hF hB hK hC
      obtain ⟨v63, e63, z63⟩ := dep hK 0 (g := .data) (j := 4) (k := 63) rfl rfl rfl
      have z63 : v63 = .int .u64 (x : Int) := z63
      subst z63
      obtain ⟨v65, e65, z65⟩ := dep hK 1 (g := .data) (j := 6) (k := 65) rfl rfl rfl
      have z65 : v65 = .int .u64 (K : Int) := z65
      subst z65
      have HB9 := Lib.hid hB
      clear hF hB hK
      go_simp
      exact hC _ _ (bel_refl _) fun _ _ => rfl
    case fin =>
      intro a0 w9 hF hB hK
      have b1 := hF.base (k := 1) (v := .int .i64 sz) (by kernel_rfl) rfl
      have b5 := hF.base (k := 5) (v := .pointer (some ⟨w1.heap.size, 0, none⟩)) (by kernel_rfl) rfl
      have b6 := hF.base (k := 6) (v := .int .i64 2) (by kernel_rfl) rfl
      have b7 := hF.base (k := 7) (v := .bool s) (by kernel_rfl) rfl
      have b8 := hF.base (k := 8) (v := .int .u64 (b : Int)) (by kernel_rfl) rfl
      have hsz := hF.size
      have hdf := hF.defers
      clear hF
      obtain ⟨v66, e66, z66⟩ := known hK 7 (k := 66) (by decide) rfl
      have z66 : v66 = .bool false := z66
      subst z66
      clear hK
      obtain ⟨⟨l0⟩, df⟩ := a0
      have hs0 : l0.length = 124 := hsz
      clear hsz
      replace hdf : df = _ := hdf
      subst hdf
      obtain ⟨u, rfl⟩ := lits_124 hs0
      clear hs0
      have q1 : u 1 = _ := Option.some.inj b1
      clear b1
      have q5 : u 5 = _ := Option.some.inj b5
      clear b5
      have q6 : u 6 = _ := Option.some.inj b6
      clear b6
      have q7 : u 7 = _ := Option.some.inj b7
      clear b7
      have q8 : u 8 = _ := Option.some.inj b8
      clear b8
      have q66 : u 66 = _ := Option.some.inj e66
      clear e66
      rw [q1, q5, q6, q7, q8, q66]
      clear q1 q5 q6 q7 q8 q66
      have hbl := hB; clear hB
      replace Ra := Lib.hid (Ra.out.below hbl)
      replace HNa := Lib.hid (HNa.out.below hbl)
      replace Re := Lib.hid (Re.out.below hbl)
      replace HNe := Lib.hid (HNe.out.below hbl)
      replace VX := Lib.hid (VX.out.below hbl VX.out.lt)
      replace HW := Lib.hid (bel_trans HW.out hbl); clear hbl
      clear VX0 VX1 VX2
      have VX0 : w9.cell? ⟨w1.heap.size, 0, none⟩ = some (.bool false) := VX.out.cell 0
      have VX1 : w9.cell? ⟨w1.heap.size, 1, none⟩ = some (.slice Aa 0 ca) := VX.out.cell 1
      have VX2 : w9.cell? ⟨w1.heap.size, 2, none⟩ = some (.slice Ae 0 ce) := VX.out.cell 2
      refine wpList_nil ?_
      go_wp2_with fail
      refine (refFrac_is3 HF.out b _ HG.out.1 HG.out.2.1 HG.out.2.2.1).mono ?_
      rintro e w4 ⟨rfl, hbl⟩
      replace Ra := Lib.hid (Ra.out.below hbl)
      replace HNa := Lib.hid (HNa.out.below hbl)
      replace Re := Lib.hid (Re.out.below hbl)
      replace HNe := Lib.hid (HNe.out.below hbl)
      replace VX := Lib.hid (VX.out.below hbl VX.out.lt)
      replace HW := Lib.hid (bel_trans HW.out hbl); clear hbl
      clear VX0 VX1 VX2
      have VX0 : w4.cell? ⟨w1.heap.size, 0, none⟩ = some (.bool false) := VX.out.cell 0
      have VX1 : w4.cell? ⟨w1.heap.size, 1, none⟩ = some (.slice Aa 0 ca) := VX.out.cell 1
      have VX2 : w4.cell? ⟨w1.heap.size, 2, none⟩ = some (.slice Ae 0 ce) := VX.out.cell 2
      go_upto_region 8 with fail
      obtain ⟨wf, hwf⟩ : ∃ wf, wf = w4.alloc (.cells #[.string (dec an_), .string (dec cn_)] 38) := ⟨_, rfl⟩
      rw [← hwf]
      have hbl : Below w4.heap.size w4 wf := by rw [hwf]; exact bel_alloc (bel_refl _) _
      have VF : Blk wf (w4.heap.size) 38 #[.string (dec an_), .string (dec cn_)] := by
        have hz := Blk.new (w4) 38 #[.string (dec an_), .string (dec cn_)]
        rw [hwf]
        exact hz
      clear hwf
      replace Ra := Lib.hid (Ra.out.below hbl)
      replace HNa := Lib.hid (HNa.out.below hbl)
      replace Re := Lib.hid (Re.out.below hbl)
      replace HNe := Lib.hid (HNe.out.below hbl)
      replace VX := Lib.hid (VX.out.below hbl VX.out.lt)
      replace HW := Lib.hid (bel_trans HW.out hbl); clear hbl
      replace VF := Lib.hid VF
      clear VX0 VX1 VX2
      have VX0 : wf.cell? ⟨w1.heap.size, 0, none⟩ = some (.bool false) := VX.out.cell 0
      have VX1 : wf.cell? ⟨w1.heap.size, 1, none⟩ = some (.slice Aa 0 ca) := VX.out.cell 1
      have VX2 : wf.cell? ⟨w1.heap.size, 2, none⟩ = some (.slice Ae 0 ce) := VX.out.cell 2
      have VF0 : wf.cell? ⟨w4.heap.size, 0, none⟩ = some (.string (dec an_)) := VF.out.cell 0
      have VF1 : wf.cell? ⟨w4.heap.size, 1, none⟩ = some (.string (dec cn_)) := VF.out.cell 1
      go_wp2_with fail
      refine (refCommon_is an_ cn_ _ (by have := HG.out.2.2.2.2.1; omega) (by have := HG.out.2.2.2.2.2.1; omega) HG.out.2.2.2.1).mono ?_
      rintro e w5 ⟨rfl, hbl⟩
      replace Ra := Lib.hid (Ra.out.below hbl)
      replace HNa := Lib.hid (HNa.out.below hbl)
      replace Re := Lib.hid (Re.out.below hbl)
      replace HNe := Lib.hid (HNe.out.below hbl)
      replace VX := Lib.hid (VX.out.below hbl VX.out.lt)
      replace VF := Lib.hid (VF.out.below hbl VF.out.lt)
      replace HW := Lib.hid (bel_trans HW.out hbl); clear hbl
      clear VX0 VX1 VX2 VF0 VF1
      have VX0 : w5.cell? ⟨w1.heap.size, 0, none⟩ = some (.bool false) := VX.out.cell 0
      have VX1 : w5.cell? ⟨w1.heap.size, 1, none⟩ = some (.slice Aa 0 ca) := VX.out.cell 1
      have VX2 : w5.cell? ⟨w1.heap.size, 2, none⟩ = some (.slice Ae 0 ce) := VX.out.cell 2
      have VF0 : w5.cell? ⟨w4.heap.size, 0, none⟩ = some (.string (dec an_)) := VF.out.cell 0
      have VF1 : w5.cell? ⟨w4.heap.size, 1, none⟩ = some (.string (dec cn_)) := VF.out.cell 1
      go_upto_region 9 with fail
      refine wp_region_typed 12 (TOf [VIs (.pointer (some ⟨w4.heap.size, 0, none⟩)),
          VIs (.string (dec an_)),
          VIs (.string (dec g)),
          VIs (.agg #[.string (dec n1), .string (dec r1)]),
          VIs (.string (dec n1)),
          VIs (.pointer (some ⟨w4.heap.size, 1, none⟩)),
          VIs (.string (dec cn_)),
          VIs (.string (dec g)),
          VIs (.agg #[.string (dec d1), .string (dec r2)]),
          VIs (.string (dec d1)),
          VIs (.string (dec n1)),
          VIs (.string (dec d1))]) (by kernel_rfl) (by kernel_rfl) (by kernel_rfl) (LiftAll.at_ (.cons (VIs.lift _) (.cons (VIs.lift _) (.cons (VIs.lift _) (.cons (VIs.lift _) (.cons (VIs.lift _) (.cons (VIs.lift _) (.cons (VIs.lift _) (.cons (VIs.lift _) (.cons (VIs.lift _) (.cons (VIs.lift _) (.cons (VIs.lift _) (.cons (VIs.lift _) .nil))))))))))))) (steps_all (steps_cons ?_ (steps_cons ?_ (steps_cons ?_ (steps_cons ?_ (steps_cons ?_ (steps_cons ?_ (steps_cons ?_ (steps_cons ?_ (steps_cons ?_ (steps_cons ?_ (steps_cons ?_ (steps_cons ?_ steps_zero))))))))))))) ?fin
      · intro a0 w9 K9 hF hB hK hC
        have b9 := hF.base (k := 9) (v := .pointer (some ⟨w4.heap.size, 0, none⟩)) (by kernel_rfl) rfl
        clear hF hB hK
        go_simp
        exact hC _ _ (bel_refl _) fun _ _ => rfl
      · intro a0 w9 K9 hF hB hK hC
        obtain ⟨v85, e85, z85⟩ := dep hK 0 (g := .data) (j := 0) (k := 85) rfl rfl rfl
        have z85 : v85 = .pointer (some ⟨w4.heap.size, 0, none⟩) := z85
        subst z85
        have x9 : w9.cell? ⟨w4.heap.size, 0, none⟩ = some (.string (dec an_)) := (VF.out.below hB VF.out.lt).cell 0
        clear hF hB hK
        go_simp
        exact hC _ _ (bel_refl _) fun _ _ => rfl
      · intro a0 w9 K9 hF hB hK hC
        have b10 := hF.base (k := 10) (v := .string (dec g)) (by kernel_rfl) rfl
        clear hF hB hK
        go_simp
        exact hC _ _ (bel_refl _) fun _ _ => rfl
      · intro a0 w9 K9 hF hB hK hC
        obtain ⟨v86, e86, z86⟩ := dep hK 0 (g := .data) (j := 1) (k := 86) rfl rfl rfl
        have z86 : v86 = .string (dec an_) := z86
        subst z86
        obtain ⟨v87, e87, z87⟩ := dep hK 1 (g := .data) (j := 2) (k := 87) rfl rfl rfl
        have z87 : v87 = .string (dec g) := z87
        subst z87
        have HB9 := Lib.hid hB
        clear hF hB hK
        go_simp
        refine (refDiv_is an_ g _ (by have := HG.out.2.2.2.2.1; omega) (by have := HG.out.2.2.2.2.2.2.1; omega) HG.out.2.2.2.2.2.2.2.1 HG.out.2.2.2.2.2.2.2.2.1 HG.out.2.2.2.2.2.2.2.2.2.2.1).mono ?_
        rintro e w7 ⟨rfl, hbl⟩
        exact hC _ _ hbl fun _ _ => rfl
      · intro a0 w9 K9 hF hB hK hC
        obtain ⟨v88, e88, z88⟩ := dep hK 0 (g := .data) (j := 3) (k := 88) rfl rfl rfl
        have z88 : v88 = .agg #[.string (dec n1), .string (dec r1)] := z88
        subst z88
        have HB9 := Lib.hid hB
        clear hF hB hK
        go_simp
        exact hC _ _ (bel_refl _) fun _ _ => rfl
      · intro a0 w9 K9 hF hB hK hC
        have b9 := hF.base (k := 9) (v := .pointer (some ⟨w4.heap.size, 0, none⟩)) (by kernel_rfl) rfl
        clear hF hB hK
        go_simp
        exact hC _ _ (bel_refl _) fun _ _ => rfl
      · intro a0 w9 K9 hF hB hK hC
        obtain ⟨v90, e90, z90⟩ := dep hK 0 (g := .data) (j := 5) (k := 90) rfl rfl rfl
        have z90 : v90 = .pointer (some ⟨w4.heap.size, 1, none⟩) := z90
        subst z90
        have x9 : w9.cell? ⟨w4.heap.size, 1, none⟩ = some (.string (dec cn_)) := (VF.out.below hB VF.out.lt).cell 1
        clear hF hB hK
        go_simp
        exact hC _ _ (bel_refl _) fun _ _ => rfl
      · intro a0 w9 K9 hF hB hK hC
        have b10 := hF.base (k := 10) (v := .string (dec g)) (by kernel_rfl) rfl
        clear hF hB hK
        go_simp
        exact hC _ _ (bel_refl _) fun _ _ => rfl
      · intro a0 w9 K9 hF hB hK hC
        obtain ⟨v91, e91, z91⟩ := dep hK 0 (g := .data) (j := 6) (k := 91) rfl rfl rfl
        have z91 : v91 = .string (dec cn_) := z91
        subst z91
        obtain ⟨v92, e92, z92⟩ := dep hK 1 (g := .data) (j := 7) (k := 92) rfl rfl rfl
        have z92 : v92 = .string (dec g) := z92
        subst z92
        have HB9 := Lib.hid hB
        clear hF hB hK
        go_simp
        refine (refDiv_is cn_ g _ (by have := HG.out.2.2.2.2.2.1; omega) (by have := HG.out.2.2.2.2.2.2.1; omega) HG.out.2.2.2.2.2.2.2.1 HG.out.2.2.2.2.2.2.2.2.2.1 HG.out.2.2.2.2.2.2.2.2.2.2.2).mono ?_
        rintro e w7 ⟨rfl, hbl⟩
        exact hC _ _ hbl fun _ _ => rfl
      · intro a0 w9 K9 hF hB hK hC
        obtain ⟨v93, e93, z93⟩ := dep hK 0 (g := .data) (j := 8) (k := 93) rfl rfl rfl
        have z93 : v93 = .agg #[.string (dec d1), .string (dec r2)] := z93
        subst z93
        have HB9 := Lib.hid hB
        clear hF hB hK
        go_simp
        exact hC _ _ (bel_refl _) fun _ _ => rfl
      · intro a0 w9 K9 hF hB hK hC
        obtain ⟨v89, e89, z89⟩ := dep hK 0 (g := .data) (j := 4) (k := 89) rfl rfl rfl
        have z89 : v89 = .string (dec n1) := z89
        subst z89
        clear hF hB hK
        go_simp
        exact hC _ _ (bel_refl _) fun _ _ => rfl
      · intro a0 w9 K9 hF hB hK hC
        obtain ⟨v94, e94, z94⟩ := dep hK 0 (g := .data) (j := 9) (k := 94) rfl rfl rfl
        have z94 : v94 = .string (dec d1) := z94
        subst z94
        clear hF hB hK
        go_simp
        exact hC _ _ (bel_refl _) fun _ _ => rfl
      case fin =>
        intro a0 w9 hF hB hK
        have b1 := hF.base (k := 1) (v := .int .i64 sz) (by kernel_rfl) rfl
        have b5 := hF.base (k := 5) (v := .pointer (some ⟨w1.heap.size, 0, none⟩)) (by kernel_rfl) rfl
        have b6 := hF.base (k := 6) (v := .int .i64 2) (by kernel_rfl) rfl
        have b7 := hF.base (k := 7) (v := .bool s) (by kernel_rfl) rfl
        have b8 := hF.base (k := 8) (v := .int .u64 (b : Int)) (by kernel_rfl) rfl
        have b9 := hF.base (k := 9) (v := .pointer (some ⟨w4.heap.size, 0, none⟩)) (by kernel_rfl) rfl
        have b10 := hF.base (k := 10) (v := .string (dec g)) (by kernel_rfl) rfl
        have hsz := hF.size
        have hdf := hF.defers
        clear hF
        obtain ⟨v11, e11, z11⟩ := known hK 10 (k := 11) (by decide) rfl
        have z11 : v11 = .string (dec n1) := z11
        subst z11
        obtain ⟨v12, e12, z12⟩ := known hK 11 (k := 12) (by decide) rfl
        have z12 : v12 = .string (dec d1) := z12
        subst z12
        clear hK
        obtain ⟨⟨l0⟩, df⟩ := a0
        have hs0 : l0.length = 124 := hsz
        clear hsz
        replace hdf : df = _ := hdf
        subst hdf
        obtain ⟨u, rfl⟩ := lits_124 hs0
        clear hs0
        have q1 : u 1 = _ := Option.some.inj b1
        clear b1
        have q5 : u 5 = _ := Option.some.inj b5
        clear b5
        have q6 : u 6 = _ := Option.some.inj b6
        clear b6
        have q7 : u 7 = _ := Option.some.inj b7
        clear b7
        have q8 : u 8 = _ := Option.some.inj b8
        clear b8
        have q9 : u 9 = _ := Option.some.inj b9
        clear b9
        have q10 : u 10 = _ := Option.some.inj b10
        clear b10
        have q11 : u 11 = _ := Option.some.inj e11
        clear e11
        have q12 : u 12 = _ := Option.some.inj e12
        clear e12
        rw [q1, q5, q6, q7, q8, q9, q10, q11, q12]
        clear q1 q5 q6 q7 q8 q9 q10 q11 q12
        have hbl := hB; clear hB
        replace Ra := Lib.hid (Ra.out.below hbl)
        replace HNa := Lib.hid (HNa.out.below hbl)
        replace Re := Lib.hid (Re.out.below hbl)
        replace HNe := Lib.hid (HNe.out.below hbl)
        replace VX := Lib.hid (VX.out.below hbl VX.out.lt)
        replace VF := Lib.hid (VF.out.below hbl VF.out.lt)
        replace HW := Lib.hid (bel_trans HW.out hbl); clear hbl
        clear VX0 VX1 VX2 VF0 VF1
        have VX0 : w9.cell? ⟨w1.heap.size, 0, none⟩ = some (.bool false) := VX.out.cell 0
        have VX1 : w9.cell? ⟨w1.heap.size, 1, none⟩ = some (.slice Aa 0 ca) := VX.out.cell 1
        have VX2 : w9.cell? ⟨w1.heap.size, 2, none⟩ = some (.slice Ae 0 ce) := VX.out.cell 2
        have VF0 : w9.cell? ⟨w4.heap.size, 0, none⟩ = some (.string (dec an_)) := VF.out.cell 0
        have VF1 : w9.cell? ⟨w4.heap.size, 1, none⟩ = some (.string (dec cn_)) := VF.out.cell 1
        refine wpList_nil ?_
        clear hfd1 hfd2
        go_wp2_with fail
        refine (refOver_is n1 _ _ HO.out).mono ?_
        rintro e w6 ⟨rfl, hbl⟩
        replace Ra := Lib.hid (Ra.out.below hbl)
        replace HNa := Lib.hid (HNa.out.below hbl)
        replace Re := Lib.hid (Re.out.below hbl)
        replace HNe := Lib.hid (HNe.out.below hbl)
        replace VX := Lib.hid (VX.out.below hbl VX.out.lt)
        replace VF := Lib.hid (VF.out.below hbl VF.out.lt)
        replace HW := Lib.hid (bel_trans HW.out hbl); clear hbl
        clear VX0 VX1 VX2 VF0 VF1
        have VX0 : w6.cell? ⟨w1.heap.size, 0, none⟩ = some (.bool false) := VX.out.cell 0
        have VX1 : w6.cell? ⟨w1.heap.size, 1, none⟩ = some (.slice Aa 0 ca) := VX.out.cell 1
        have VX2 : w6.cell? ⟨w1.heap.size, 2, none⟩ = some (.slice Ae 0 ce) := VX.out.cell 2
        have VF0 : w6.cell? ⟨w4.heap.size, 0, none⟩ = some (.string (dec an_)) := VF.out.cell 0
        have VF1 : w6.cell? ⟨w4.heap.size, 1, none⟩ = some (.string (dec cn_)) := VF.out.cell 1
        go_wp2_with fail
        refine (alive3 _).mono ?_
        rintro e w7 ⟨rfl, hbl⟩
        replace Ra := Lib.hid (Ra.out.below hbl)
        replace HNa := Lib.hid (HNa.out.below hbl)
        replace Re := Lib.hid (Re.out.below hbl)
        replace HNe := Lib.hid (HNe.out.below hbl)
        replace VX := Lib.hid (VX.out.below hbl VX.out.lt)
        replace VF := Lib.hid (VF.out.below hbl VF.out.lt)
        replace HW := Lib.hid (bel_trans HW.out hbl); clear hbl
        clear VX0 VX1 VX2 VF0 VF1
        have VX0 : w7.cell? ⟨w1.heap.size, 0, none⟩ = some (.bool false) := VX.out.cell 0
        have VX1 : w7.cell? ⟨w1.heap.size, 1, none⟩ = some (.slice Aa 0 ca) := VX.out.cell 1
        have VX2 : w7.cell? ⟨w1.heap.size, 2, none⟩ = some (.slice Ae 0 ce) := VX.out.cell 2
        have VF0 : w7.cell? ⟨w4.heap.size, 0, none⟩ = some (.string (dec an_)) := VF.out.cell 0
        have VF1 : w7.cell? ⟨w4.heap.size, 1, none⟩ = some (.string (dec cn_)) := VF.out.cell 1
        go_wp2_with fail
        refine (same_none Aa Ae ca ce _).mono ?_
        rintro e w8 ⟨rfl, hbl⟩
        replace Ra := Lib.hid (Ra.out.below hbl)
        replace HNa := Lib.hid (HNa.out.below hbl)
        replace Re := Lib.hid (Re.out.below hbl)
        replace HNe := Lib.hid (HNe.out.below hbl)
        replace VX := Lib.hid (VX.out.below hbl VX.out.lt)
        replace VF := Lib.hid (VF.out.below hbl VF.out.lt)
        replace HW := Lib.hid (bel_trans HW.out hbl); clear hbl
        clear VX0 VX1 VX2 VF0 VF1
        have VX0 : w8.cell? ⟨w1.heap.size, 0, none⟩ = some (.bool false) := VX.out.cell 0
        have VX1 : w8.cell? ⟨w1.heap.size, 1, none⟩ = some (.slice Aa 0 ca) := VX.out.cell 1
        have VX2 : w8.cell? ⟨w1.heap.size, 2, none⟩ = some (.slice Ae 0 ce) := VX.out.cell 2
        have VF0 : w8.cell? ⟨w4.heap.size, 0, none⟩ = some (.string (dec an_)) := VF.out.cell 0
        have VF1 : w8.cell? ⟨w4.heap.size, 1, none⟩ = some (.string (dec cn_)) := VF.out.cell 1
        go_wp2
        go_ret
        exact ⟨rfl, HW.out⟩

set_option maxRecDepth 100000 in
set_option maxHeartbeats 1000000 in
theorem values_ovn_t {p q t : Nat} {b : Nat} {s : Bool} {n1 d1 : Nat} (N : Nat) (sz : Int) (w : World) (hv : ∀ w1, Calls Try.prog 47 #[.int .u64 (N : Int), .int .i64 sz] w1 (RetQE noQ 2 w1)) (hf : Fm sz p q t) (zz : (sz == 32) = true) (hbZ : b < 2 ^ (sz.toNat - 1)) (hs : b = 0 → s = false) (hN : N = b + s.toNat * 2 ^ (sz.toNat - 1)) (hb : ¬ (t + q + 2) * 2 ^ (p - 1) ≤ b) (hn1 : LN p q b = n1) (hd1 : LD p q b = d1) (ho : Top ≤ n1) :
    Calls Try.prog 9 #[.int .u64 (N : Int), .int .i64 sz] w (RetT w) := by
  have HV := Lib.hid hv; clear hv
  have HZ := Lib.hid zz; clear zz
  obtain ⟨op1, op2, oq0, oq, ot, os1, os2⟩ := hf.ok
  have HF := Lib.hid hf; clear hf
  obtain ⟨z, hz3⟩ : ∃ z : Nat, sz = (z : Int) + 1 := ⟨sz.toNat - 1, by omega⟩
  have hz63 : z ≤ 63 := by omega
  have hzz : sz.toNat - 1 = z := by omega
  rw [hzz] at hbZ hN
  obtain ⟨Z, hZ⟩ : ∃ Z, Z = 2 ^ z := ⟨_, rfl⟩
  obtain ⟨H, hH⟩ : ∃ H, H = 2 ^ (p - 1) := ⟨_, rfl⟩
  obtain ⟨K, hK⟩ : ∃ K, K = t + q + 2 := ⟨_, rfl⟩
  have hZ1 : Z ≤ 9223372036854775808 := by rw [hZ]; exact Nat.pow_le_pow_right (n := 2) (j := 63) (by decide) hz63
  obtain ⟨SZ, hSZ⟩ : ∃ S, S = s.toNat * Z := ⟨_, rfl⟩
  have hsz : SZ ≤ Z := by rw [hSZ]; have := Nat.mul_le_mul_right Z (Bool.toNat_le s); omega
  have hbZ2 := hbZ
  have hN2 := hN
  rw [← hZ] at hbZ hN
  rw [← hSZ] at hN
  have hNlt : N < 18446744073709551616 := by omega
  have a1 : bits BinOp.and IntKind.u64 (N : Int) (Z : Int) = (SZ : Int) := by rw [u64_and_nat _ _ hNlt (by omega), hN2, hZ, and_high hbZ2, hSZ, hZ]
  have a2 : ((SZ : Int) != 0) = s := by
    rw [hSZ]
    have : 0 < Z := by rw [hZ]; exact Nat.pow_pos (by decide)
    cases s
    · simp
    · simp; omega
  have a3 : bits BinOp.andNot IntKind.u64 (N : Int) (Z : Int) = (b : Int) := by rw [u64_andNot_nat _ _ hNlt (by omega), hN2, hZ, andNot_high hbZ2 hz63]
  have hNZ : N ≠ Z := by
    have h0 : 0 < Z := by rw [hZ]; exact Nat.pow_pos (by decide)
    cases s
    · rw [hN, hSZ]; simp; omega
    · have : b ≠ 0 := fun h => by have := hs h; cases this
      rw [hN, hSZ]; simp; omega
  have a4 : ((N : Int) == (Z : Int)) = false := by simp only [beq_eq_false_iff_ne, ne_eq]; omega
  have a5 : ¬ (N : Int) = (Z : Int) := by omega
  obtain ⟨x, hx⟩ : ∃ x, x = b / H := ⟨_, rfl⟩
  have a6 : IntKind.i64.wrap ((p : Int) - 1) = ((p - 1 : Nat) : Int) := by rw [IntKind.wrap_i64]; omega
  have a7 : (2 : Int) ^ (p - 1) = (H : Int) := by rw [hH, Int.natCast_pow]; rfl
  have a8 : (b : Int) / (H : Int) = (x : Int) := by rw [hx]; exact (Int.natCast_ediv b H).symm
  have hxK : x ≠ K := by rw [hx, hK]; intro h; refine hb ?_; rw [← h, ← hH]; exact Nat.div_mul_le_self b H
  have a9 : ((x : Int) == (K : Int)) = false := by simp only [beq_eq_false_iff_ne, ne_eq]; omega
  clear hxK
  have HN32 : Hid (sz = 32 → N < 4294967296) := by
    show sz = 32 → N < 4294967296
    intro h
    obtain rfl : z = 31 := by omega
    rw [show (2 : Nat) ^ 31 = 2147483648 from rfl] at hZ
    omega
  have HHZ := Lib.hid (show Z = 2 ^ (sz.toNat - 1) by rw [hzz]; exact hZ)
  have HK := Lib.hid hK; clear hK
  clear hz3 hz63 hzz hZ hH hZ1 hSZ hsz hbZ2 hN2 hN hNlt hNZ hx hbZ hs
  have hble : b ≤ (t + q + 2) * 2 ^ (p - 1) := by omega
  obtain ⟨an_, han⟩ : ∃ a, FN p q b = a := ⟨_, rfl⟩
  obtain ⟨cn_, hcn⟩ : ∃ a, FD p q b = a := ⟨_, rfl⟩
  obtain ⟨g, hg⟩ : ∃ g, Nat.gcd an_ cn_ = g := ⟨_, rfl⟩
  have l1 := FN_len HF.out hble
  have l2 := FD_len (b := b) HF.out
  have hc0p := FD_pos p q b
  rw [han] at l1
  rw [hcn] at l2 hc0p
  have hgl : (decL g).length ≤ 340 := Nat.le_trans (decL_mono (by rw [← hg]; exact Nat.gcd_le_right an_ hc0p)) l2
  have hg0 : g ≠ 0 := by rw [← hg]; exact Nat.ne_of_gt (Nat.gcd_pos_of_pos_right _ hc0p)
  have hq1 : an_ / g = n1 := by rw [← hn1, ← hg, ← han, ← hcn]; rfl
  have hq2 : cn_ / g = d1 := by rw [← hd1, ← hg, ← han, ← hcn]; rfl
  obtain ⟨r1, hr1⟩ : ∃ r, an_ % g = r := ⟨_, rfl⟩
  obtain ⟨r2, hr2⟩ : ∃ r, cn_ % g = r := ⟨_, rfl⟩
  have HG := Lib.hid (And.intro hble (And.intro han (And.intro hcn (And.intro hg (And.intro l1 (And.intro l2 (And.intro hgl (And.intro hg0 (And.intro hq1 (And.intro hq2 (And.intro hr1 hr2))))))))))); clear hble han hcn hg l1 l2 hc0p hgl hg0 hq1 hq2 hr1 hr2 hb hn1 hd1
  have HO := Lib.hid (decide_eq_true ho); clear ho
  have hfd1 := fun W => field_q (dec n1) (dec r1) W
  have hfd2 := fun W => field_q (dec d1) (dec r2) W
  have HW := Lib.hid (bel_refl w)
  go_enter Try.func9, Try.ntmps9
  go_wp2_with fail
  refine (HV.out _).mono ?_
  rintro e w1 ⟨va, ve, rfl, hna, hne, hbl⟩
  replace HW := Lib.hid (bel_trans HW.out hbl); clear hbl
  have HNa := Lib.hid hna; clear hna
  obtain ⟨Aa, ca, rfl, hca, hra⟩ := HNa.out.row
  have Ra := Lib.hid hra; have HCa := Lib.hid hca; clear hra hca
  have HNe := Lib.hid hne; clear hne
  obtain ⟨Ae, ce, rfl, hce, hre⟩ := HNe.out.row
  have Re := Lib.hid hre; have HCe := Lib.hid hce; clear hre hce
  rw [show noQ.s = false from rfl, show noQ.n = 0 from rfl, show noQ.d = 0 from rfl, limbs0]
  go_upto_region 2 with fail
  obtain ⟨wm, hwm⟩ : ∃ wm, wm = w1.alloc (.cells #[.bool false, .slice Aa 0 ca, .slice Ae 0 ce] 25) := ⟨_, rfl⟩
  rw [← hwm]
  have hbl : Below w1.heap.size w1 wm := by rw [hwm]; exact bel_alloc (bel_refl _) _
  have VX : Blk wm (w1.heap.size) 25 #[.bool false, .slice Aa 0 ca, .slice Ae 0 ce] := by
    have hz := Blk.new (w1) 25 #[.bool false, .slice Aa 0 ca, .slice Ae 0 ce]
    rw [hwm]
    exact hz
  clear hwm
  replace Ra := Lib.hid (Ra.out.below hbl)
  replace HNa := Lib.hid (HNa.out.below hbl)
  replace Re := Lib.hid (Re.out.below hbl)
  replace HNe := Lib.hid (HNe.out.below hbl)
  replace HW := Lib.hid (bel_trans HW.out hbl); clear hbl
  replace VX := Lib.hid VX
  have VX0 : wm.cell? ⟨w1.heap.size, 0, none⟩ = some (.bool false) := VX.out.cell 0
  have VX1 : wm.cell? ⟨w1.heap.size, 1, none⟩ = some (.slice Aa 0 ca) := VX.out.cell 1
  have VX2 : wm.cell? ⟨w1.heap.size, 2, none⟩ = some (.slice Ae 0 ce) := VX.out.cell 2
  go_cut [39] (fun v wx => v = .bool false ∧ Below wm.heap.size wm wx)
  case first =>
    obtain rfl : sz = 32 := by simpa using HZ.out
    have g1 : (N : Int) / 4294967296 = 0 := by have := HN32.out rfl; omega
    go_wp2_with fail
    refine (high3_any HF.out _ (H := Z) HHZ.out).mono ?_
    rintro e w7 ⟨rfl, hbl⟩
    have H7 := Lib.hid hbl; clear hbl
    go_wp2_with fail
    go_meet
    exact ⟨rfl, H7.out⟩
  case rest =>
    obtain ⟨rfl, hbl⟩ := hcut
    replace Ra := Lib.hid (Ra.out.below hbl)
    replace HNa := Lib.hid (HNa.out.below hbl)
    replace Re := Lib.hid (Re.out.below hbl)
    replace HNe := Lib.hid (HNe.out.below hbl)
    replace VX := Lib.hid (VX.out.below hbl VX.out.lt)
    replace HW := Lib.hid (bel_trans HW.out hbl); clear hbl
    clear VX0 VX1 VX2
    have VX0 : wc.cell? ⟨w1.heap.size, 0, none⟩ = some (.bool false) := VX.out.cell 0
    have VX1 : wc.cell? ⟨w1.heap.size, 1, none⟩ = some (.slice Aa 0 ca) := VX.out.cell 1
    have VX2 : wc.cell? ⟨w1.heap.size, 2, none⟩ = some (.slice Ae 0 ce) := VX.out.cell 2
    go_wp2_with fail
    refine (high3_any HF.out _ HHZ.out).mono ?_
    rintro e w2 ⟨rfl, hbl⟩
    replace Ra := Lib.hid (Ra.out.below hbl)
    replace HNa := Lib.hid (HNa.out.below hbl)
    replace Re := Lib.hid (Re.out.below hbl)
    replace HNe := Lib.hid (HNe.out.below hbl)
    replace VX := Lib.hid (VX.out.below hbl VX.out.lt)
    replace HW := Lib.hid (bel_trans HW.out hbl); clear hbl
    clear VX0 VX1 VX2
    have VX0 : w2.cell? ⟨w1.heap.size, 0, none⟩ = some (.bool false) := VX.out.cell 0
    have VX1 : w2.cell? ⟨w1.heap.size, 1, none⟩ = some (.slice Aa 0 ca) := VX.out.cell 1
    have VX2 : w2.cell? ⟨w1.heap.size, 2, none⟩ = some (.slice Ae 0 ce) := VX.out.cell 2
    go_wp2_with fail
    refine (high3_any HF.out _ HHZ.out).mono ?_
    rintro e w3 ⟨rfl, hbl⟩
    replace Ra := Lib.hid (Ra.out.below hbl)
    replace HNa := Lib.hid (HNa.out.below hbl)
    replace Re := Lib.hid (Re.out.below hbl)
    replace HNe := Lib.hid (HNe.out.below hbl)
    replace VX := Lib.hid (VX.out.below hbl VX.out.lt)
    replace HW := Lib.hid (bel_trans HW.out hbl); clear hbl
    clear VX0 VX1 VX2
    have VX0 : w3.cell? ⟨w1.heap.size, 0, none⟩ = some (.bool false) := VX.out.cell 0
    have VX1 : w3.cell? ⟨w1.heap.size, 1, none⟩ = some (.slice Aa 0 ca) := VX.out.cell 1
    have VX2 : w3.cell? ⟨w1.heap.size, 2, none⟩ = some (.slice Ae 0 ce) := VX.out.cell 2
    go_upto_region 5 with fail
    refine wp_region_typed 8 (TOf [VIs (.int .u64 (b : Int)),
        VIs (.int .i64 sz),
        VIs (.int .i64 (p : Int)),
        VIs (.int .i64 ((p - 1 : Nat) : Int)),
        VIs (.int .u64 (x : Int)),
        VIs (.int .i64 sz),
        VIs (.int .u64 (K : Int)),
        VIs (.bool false)]) (by kernel_rfl) (by kernel_rfl) (by kernel_rfl) (LiftAll.at_ (.cons (VIs.lift _) (.cons (VIs.lift _) (.cons (VIs.lift _) (.cons (VIs.lift _) (.cons (VIs.lift _) (.cons (VIs.lift _) (.cons (VIs.lift _) (.cons (VIs.lift _) .nil))))))))) (steps_all (steps_cons ?_ (steps_cons ?_ (steps_cons ?_ (steps_cons ?_ (steps_cons ?_ (steps_cons ?_ (steps_cons ?_ (steps_cons ?_ steps_zero))))))))) ?fin
    · intro a0 w9 K9 hF hB hK hC
      have b8 := hF.base (k := 8) (v := .int .u64 (b : Int)) (by kernel_rfl) rfl
      clear hF hB hK
      go_simp
      exact hC _ _ (bel_refl _) fun _ _ => rfl
    · intro a0 w9 K9 hF hB hK hC
      have b1 := hF.base (k := 1) (v := .int .i64 sz) (by kernel_rfl) rfl
      clear hF hB hK
      go_simp
      exact hC _ _ (bel_refl _) fun _ _ => rfl
    · intro a0 w9 K9 hF hB hK hC
      obtain ⟨v60, e60, z60⟩ := dep hK 0 (g := .data) (j := 1) (k := 60) rfl rfl rfl
      have z60 : v60 = .int .i64 sz := z60
      subst z60
      have HB9 := Lib.hid hB
      clear hF hB hK
      go_simp
      refine (refMant_any HF.out _).mono ?_
      rintro e w7 ⟨rfl, hbl⟩
      exact hC _ _ hbl fun _ _ => rfl
    · intro a0 w9 K9 hF hB hK hC
      obtain ⟨v61, e61, z61⟩ := dep hK 0 (g := .data) (j := 2) (k := 61) rfl rfl rfl
      have z61 : v61 = .int .i64 (p : Int) := z61
      subst z61
      have HB9 := Lib.hid hB
      clear hF hB hK
      go_simp
      exact hC _ _ (bel_refl _) fun _ _ => rfl
    · intro a0 w9 K9 hF hB hK hC
      obtain ⟨v59, e59, z59⟩ := dep hK 0 (g := .data) (j := 0) (k := 59) rfl rfl rfl
      have z59 : v59 = .int .u64 (b : Int) := z59
      subst z59
      obtain ⟨v62, e62, z62⟩ := dep hK 1 (g := .data) (j := 3) (k := 62) rfl rfl rfl
      have z62 : v62 = .int .i64 ((p - 1 : Nat) : Int) := z62
      subst z62
      have HB9 := Lib.hid hB
      clear hF hB hK
      go_simp
      exact hC _ _ (bel_refl _) fun _ _ => rfl
    · intro a0 w9 K9 hF hB hK hC
      have b1 := hF.base (k := 1) (v := .int .i64 sz) (by kernel_rfl) rfl
      clear hF hB hK
      go_simp
      exact hC _ _ (bel_refl _) fun _ _ => rfl
    · intro a0 w9 K9 hF hB hK hC
      obtain ⟨v64, e64, z64⟩ := dep hK 0 (g := .data) (j := 5) (k := 64) rfl rfl rfl
      have z64 : v64 = .int .i64 sz := z64
      subst z64
      have HB9 := Lib.hid hB
      clear hF hB hK
      go_simp
      refine (refHigh_is3 HF.out _ HK.out).mono ?_
      rintro e w7 ⟨rfl, hbl⟩
      exact hC _ _ hbl fun _ _ => rfl
    · intro a0 w9 K9 hF hB hK hC
      obtain ⟨v63, e63, z63⟩ := dep hK 0 (g := .data) (j := 4) (k := 63) rfl rfl rfl
      have z63 : v63 = .int .u64 (x : Int) := z63
      subst z63
      obtain ⟨v65, e65, z65⟩ := dep hK 1 (g := .data) (j := 6) (k := 65) rfl rfl rfl
      have z65 : v65 = .int .u64 (K : Int) := z65
      subst z65
      have HB9 := Lib.hid hB
      clear hF hB hK
      go_simp
      exact hC _ _ (bel_refl _) fun _ _ => rfl
    case fin =>
      intro a0 w9 hF hB hK
      have b1 := hF.base (k := 1) (v := .int .i64 sz) (by kernel_rfl) rfl
      have b5 := hF.base (k := 5) (v := .pointer (some ⟨w1.heap.size, 0, none⟩)) (by kernel_rfl) rfl
      have b6 := hF.base (k := 6) (v := .int .i64 2) (by kernel_rfl) rfl
      have b7 := hF.base (k := 7) (v := .bool s) (by kernel_rfl) rfl
      have b8 := hF.base (k := 8) (v := .int .u64 (b : Int)) (by kernel_rfl) rfl
      have hsz := hF.size
      have hdf := hF.defers
      clear hF
      obtain ⟨v66, e66, z66⟩ := known hK 7 (k := 66) (by decide) rfl
      have z66 : v66 = .bool false := z66
      subst z66
      clear hK
      obtain ⟨⟨l0⟩, df⟩ := a0
      have hs0 : l0.length = 124 := hsz
      clear hsz
      replace hdf : df = _ := hdf
      subst hdf
      obtain ⟨u, rfl⟩ := lits_124 hs0
      clear hs0
      have q1 : u 1 = _ := Option.some.inj b1
      clear b1
      have q5 : u 5 = _ := Option.some.inj b5
      clear b5
      have q6 : u 6 = _ := Option.some.inj b6
      clear b6
      have q7 : u 7 = _ := Option.some.inj b7
      clear b7
      have q8 : u 8 = _ := Option.some.inj b8
      clear b8
      have q66 : u 66 = _ := Option.some.inj e66
      clear e66
      rw [q1, q5, q6, q7, q8, q66]
      clear q1 q5 q6 q7 q8 q66
      have hbl := hB; clear hB
      replace Ra := Lib.hid (Ra.out.below hbl)
      replace HNa := Lib.hid (HNa.out.below hbl)
      replace Re := Lib.hid (Re.out.below hbl)
      replace HNe := Lib.hid (HNe.out.below hbl)
      replace VX := Lib.hid (VX.out.below hbl VX.out.lt)
      replace HW := Lib.hid (bel_trans HW.out hbl); clear hbl
      clear VX0 VX1 VX2
      have VX0 : w9.cell? ⟨w1.heap.size, 0, none⟩ = some (.bool false) := VX.out.cell 0
      have VX1 : w9.cell? ⟨w1.heap.size, 1, none⟩ = some (.slice Aa 0 ca) := VX.out.cell 1
      have VX2 : w9.cell? ⟨w1.heap.size, 2, none⟩ = some (.slice Ae 0 ce) := VX.out.cell 2
      refine wpList_nil ?_
      go_wp2_with fail
      refine (refFrac_is3 HF.out b _ HG.out.1 HG.out.2.1 HG.out.2.2.1).mono ?_
      rintro e w4 ⟨rfl, hbl⟩
      replace Ra := Lib.hid (Ra.out.below hbl)
      replace HNa := Lib.hid (HNa.out.below hbl)
      replace Re := Lib.hid (Re.out.below hbl)
      replace HNe := Lib.hid (HNe.out.below hbl)
      replace VX := Lib.hid (VX.out.below hbl VX.out.lt)
      replace HW := Lib.hid (bel_trans HW.out hbl); clear hbl
      clear VX0 VX1 VX2
      have VX0 : w4.cell? ⟨w1.heap.size, 0, none⟩ = some (.bool false) := VX.out.cell 0
      have VX1 : w4.cell? ⟨w1.heap.size, 1, none⟩ = some (.slice Aa 0 ca) := VX.out.cell 1
      have VX2 : w4.cell? ⟨w1.heap.size, 2, none⟩ = some (.slice Ae 0 ce) := VX.out.cell 2
      go_upto_region 8 with fail
      obtain ⟨wf, hwf⟩ : ∃ wf, wf = w4.alloc (.cells #[.string (dec an_), .string (dec cn_)] 38) := ⟨_, rfl⟩
      rw [← hwf]
      have hbl : Below w4.heap.size w4 wf := by rw [hwf]; exact bel_alloc (bel_refl _) _
      have VF : Blk wf (w4.heap.size) 38 #[.string (dec an_), .string (dec cn_)] := by
        have hz := Blk.new (w4) 38 #[.string (dec an_), .string (dec cn_)]
        rw [hwf]
        exact hz
      clear hwf
      replace Ra := Lib.hid (Ra.out.below hbl)
      replace HNa := Lib.hid (HNa.out.below hbl)
      replace Re := Lib.hid (Re.out.below hbl)
      replace HNe := Lib.hid (HNe.out.below hbl)
      replace VX := Lib.hid (VX.out.below hbl VX.out.lt)
      replace HW := Lib.hid (bel_trans HW.out hbl); clear hbl
      replace VF := Lib.hid VF
      clear VX0 VX1 VX2
      have VX0 : wf.cell? ⟨w1.heap.size, 0, none⟩ = some (.bool false) := VX.out.cell 0
      have VX1 : wf.cell? ⟨w1.heap.size, 1, none⟩ = some (.slice Aa 0 ca) := VX.out.cell 1
      have VX2 : wf.cell? ⟨w1.heap.size, 2, none⟩ = some (.slice Ae 0 ce) := VX.out.cell 2
      have VF0 : wf.cell? ⟨w4.heap.size, 0, none⟩ = some (.string (dec an_)) := VF.out.cell 0
      have VF1 : wf.cell? ⟨w4.heap.size, 1, none⟩ = some (.string (dec cn_)) := VF.out.cell 1
      go_wp2_with fail
      refine (refCommon_is an_ cn_ _ (by have := HG.out.2.2.2.2.1; omega) (by have := HG.out.2.2.2.2.2.1; omega) HG.out.2.2.2.1).mono ?_
      rintro e w5 ⟨rfl, hbl⟩
      replace Ra := Lib.hid (Ra.out.below hbl)
      replace HNa := Lib.hid (HNa.out.below hbl)
      replace Re := Lib.hid (Re.out.below hbl)
      replace HNe := Lib.hid (HNe.out.below hbl)
      replace VX := Lib.hid (VX.out.below hbl VX.out.lt)
      replace VF := Lib.hid (VF.out.below hbl VF.out.lt)
      replace HW := Lib.hid (bel_trans HW.out hbl); clear hbl
      clear VX0 VX1 VX2 VF0 VF1
      have VX0 : w5.cell? ⟨w1.heap.size, 0, none⟩ = some (.bool false) := VX.out.cell 0
      have VX1 : w5.cell? ⟨w1.heap.size, 1, none⟩ = some (.slice Aa 0 ca) := VX.out.cell 1
      have VX2 : w5.cell? ⟨w1.heap.size, 2, none⟩ = some (.slice Ae 0 ce) := VX.out.cell 2
      have VF0 : w5.cell? ⟨w4.heap.size, 0, none⟩ = some (.string (dec an_)) := VF.out.cell 0
      have VF1 : w5.cell? ⟨w4.heap.size, 1, none⟩ = some (.string (dec cn_)) := VF.out.cell 1
      go_upto_region 9 with fail
      refine wp_region_typed 12 (TOf [VIs (.pointer (some ⟨w4.heap.size, 0, none⟩)),
          VIs (.string (dec an_)),
          VIs (.string (dec g)),
          VIs (.agg #[.string (dec n1), .string (dec r1)]),
          VIs (.string (dec n1)),
          VIs (.pointer (some ⟨w4.heap.size, 1, none⟩)),
          VIs (.string (dec cn_)),
          VIs (.string (dec g)),
          VIs (.agg #[.string (dec d1), .string (dec r2)]),
          VIs (.string (dec d1)),
          VIs (.string (dec n1)),
          VIs (.string (dec d1))]) (by kernel_rfl) (by kernel_rfl) (by kernel_rfl) (LiftAll.at_ (.cons (VIs.lift _) (.cons (VIs.lift _) (.cons (VIs.lift _) (.cons (VIs.lift _) (.cons (VIs.lift _) (.cons (VIs.lift _) (.cons (VIs.lift _) (.cons (VIs.lift _) (.cons (VIs.lift _) (.cons (VIs.lift _) (.cons (VIs.lift _) (.cons (VIs.lift _) .nil))))))))))))) (steps_all (steps_cons ?_ (steps_cons ?_ (steps_cons ?_ (steps_cons ?_ (steps_cons ?_ (steps_cons ?_ (steps_cons ?_ (steps_cons ?_ (steps_cons ?_ (steps_cons ?_ (steps_cons ?_ (steps_cons ?_ steps_zero))))))))))))) ?fin
      · intro a0 w9 K9 hF hB hK hC
        have b9 := hF.base (k := 9) (v := .pointer (some ⟨w4.heap.size, 0, none⟩)) (by kernel_rfl) rfl
        clear hF hB hK
        go_simp
        exact hC _ _ (bel_refl _) fun _ _ => rfl
      · intro a0 w9 K9 hF hB hK hC
        obtain ⟨v85, e85, z85⟩ := dep hK 0 (g := .data) (j := 0) (k := 85) rfl rfl rfl
        have z85 : v85 = .pointer (some ⟨w4.heap.size, 0, none⟩) := z85
        subst z85
        have x9 : w9.cell? ⟨w4.heap.size, 0, none⟩ = some (.string (dec an_)) := (VF.out.below hB VF.out.lt).cell 0
        clear hF hB hK
        go_simp
        exact hC _ _ (bel_refl _) fun _ _ => rfl
      · intro a0 w9 K9 hF hB hK hC
        have b10 := hF.base (k := 10) (v := .string (dec g)) (by kernel_rfl) rfl
        clear hF hB hK
        go_simp
        exact hC _ _ (bel_refl _) fun _ _ => rfl
      · intro a0 w9 K9 hF hB hK hC
        obtain ⟨v86, e86, z86⟩ := dep hK 0 (g := .data) (j := 1) (k := 86) rfl rfl rfl
        have z86 : v86 = .string (dec an_) := z86
        subst z86
        obtain ⟨v87, e87, z87⟩ := dep hK 1 (g := .data) (j := 2) (k := 87) rfl rfl rfl
        have z87 : v87 = .string (dec g) := z87
        subst z87
        have HB9 := Lib.hid hB
        clear hF hB hK
        go_simp
        refine (refDiv_is an_ g _ (by have := HG.out.2.2.2.2.1; omega) (by have := HG.out.2.2.2.2.2.2.1; omega) HG.out.2.2.2.2.2.2.2.1 HG.out.2.2.2.2.2.2.2.2.1 HG.out.2.2.2.2.2.2.2.2.2.2.1).mono ?_
        rintro e w7 ⟨rfl, hbl⟩
        exact hC _ _ hbl fun _ _ => rfl
      · intro a0 w9 K9 hF hB hK hC
        obtain ⟨v88, e88, z88⟩ := dep hK 0 (g := .data) (j := 3) (k := 88) rfl rfl rfl
        have z88 : v88 = .agg #[.string (dec n1), .string (dec r1)] := z88
        subst z88
        have HB9 := Lib.hid hB
        clear hF hB hK
        go_simp
        exact hC _ _ (bel_refl _) fun _ _ => rfl
      · intro a0 w9 K9 hF hB hK hC
        have b9 := hF.base (k := 9) (v := .pointer (some ⟨w4.heap.size, 0, none⟩)) (by kernel_rfl) rfl
        clear hF hB hK
        go_simp
        exact hC _ _ (bel_refl _) fun _ _ => rfl
      · intro a0 w9 K9 hF hB hK hC
        obtain ⟨v90, e90, z90⟩ := dep hK 0 (g := .data) (j := 5) (k := 90) rfl rfl rfl
        have z90 : v90 = .pointer (some ⟨w4.heap.size, 1, none⟩) := z90
        subst z90
        have x9 : w9.cell? ⟨w4.heap.size, 1, none⟩ = some (.string (dec cn_)) := (VF.out.below hB VF.out.lt).cell 1
        clear hF hB hK
        go_simp
        exact hC _ _ (bel_refl _) fun _ _ => rfl
      · intro a0 w9 K9 hF hB hK hC
        have b10 := hF.base (k := 10) (v := .string (dec g)) (by kernel_rfl) rfl
        clear hF hB hK
        go_simp
        exact hC _ _ (bel_refl _) fun _ _ => rfl
      · intro a0 w9 K9 hF hB hK hC
        obtain ⟨v91, e91, z91⟩ := dep hK 0 (g := .data) (j := 6) (k := 91) rfl rfl rfl
        have z91 : v91 = .string (dec cn_) := z91
        subst z91
        obtain ⟨v92, e92, z92⟩ := dep hK 1 (g := .data) (j := 7) (k := 92) rfl rfl rfl
        have z92 : v92 = .string (dec g) := z92
        subst z92
        have HB9 := Lib.hid hB
        clear hF hB hK
        go_simp
        refine (refDiv_is cn_ g _ (by have := HG.out.2.2.2.2.2.1; omega) (by have := HG.out.2.2.2.2.2.2.1; omega) HG.out.2.2.2.2.2.2.2.1 HG.out.2.2.2.2.2.2.2.2.2.1 HG.out.2.2.2.2.2.2.2.2.2.2.2).mono ?_
        rintro e w7 ⟨rfl, hbl⟩
        exact hC _ _ hbl fun _ _ => rfl
      · intro a0 w9 K9 hF hB hK hC
        obtain ⟨v93, e93, z93⟩ := dep hK 0 (g := .data) (j := 8) (k := 93) rfl rfl rfl
        have z93 : v93 = .agg #[.string (dec d1), .string (dec r2)] := z93
        subst z93
        have HB9 := Lib.hid hB
        clear hF hB hK
        go_simp
        exact hC _ _ (bel_refl _) fun _ _ => rfl
      · intro a0 w9 K9 hF hB hK hC
        obtain ⟨v89, e89, z89⟩ := dep hK 0 (g := .data) (j := 4) (k := 89) rfl rfl rfl
        have z89 : v89 = .string (dec n1) := z89
        subst z89
        clear hF hB hK
        go_simp
        exact hC _ _ (bel_refl _) fun _ _ => rfl
      · intro a0 w9 K9 hF hB hK hC
        obtain ⟨v94, e94, z94⟩ := dep hK 0 (g := .data) (j := 9) (k := 94) rfl rfl rfl
        have z94 : v94 = .string (dec d1) := z94
        subst z94
        clear hF hB hK
        go_simp
        exact hC _ _ (bel_refl _) fun _ _ => rfl
      case fin =>
        intro a0 w9 hF hB hK
        have b1 := hF.base (k := 1) (v := .int .i64 sz) (by kernel_rfl) rfl
        have b5 := hF.base (k := 5) (v := .pointer (some ⟨w1.heap.size, 0, none⟩)) (by kernel_rfl) rfl
        have b6 := hF.base (k := 6) (v := .int .i64 2) (by kernel_rfl) rfl
        have b7 := hF.base (k := 7) (v := .bool s) (by kernel_rfl) rfl
        have b8 := hF.base (k := 8) (v := .int .u64 (b : Int)) (by kernel_rfl) rfl
        have b9 := hF.base (k := 9) (v := .pointer (some ⟨w4.heap.size, 0, none⟩)) (by kernel_rfl) rfl
        have b10 := hF.base (k := 10) (v := .string (dec g)) (by kernel_rfl) rfl
        have hsz := hF.size
        have hdf := hF.defers
        clear hF
        obtain ⟨v11, e11, z11⟩ := known hK 10 (k := 11) (by decide) rfl
        have z11 : v11 = .string (dec n1) := z11
        subst z11
        obtain ⟨v12, e12, z12⟩ := known hK 11 (k := 12) (by decide) rfl
        have z12 : v12 = .string (dec d1) := z12
        subst z12
        clear hK
        obtain ⟨⟨l0⟩, df⟩ := a0
        have hs0 : l0.length = 124 := hsz
        clear hsz
        replace hdf : df = _ := hdf
        subst hdf
        obtain ⟨u, rfl⟩ := lits_124 hs0
        clear hs0
        have q1 : u 1 = _ := Option.some.inj b1
        clear b1
        have q5 : u 5 = _ := Option.some.inj b5
        clear b5
        have q6 : u 6 = _ := Option.some.inj b6
        clear b6
        have q7 : u 7 = _ := Option.some.inj b7
        clear b7
        have q8 : u 8 = _ := Option.some.inj b8
        clear b8
        have q9 : u 9 = _ := Option.some.inj b9
        clear b9
        have q10 : u 10 = _ := Option.some.inj b10
        clear b10
        have q11 : u 11 = _ := Option.some.inj e11
        clear e11
        have q12 : u 12 = _ := Option.some.inj e12
        clear e12
        rw [q1, q5, q6, q7, q8, q9, q10, q11, q12]
        clear q1 q5 q6 q7 q8 q9 q10 q11 q12
        have hbl := hB; clear hB
        replace Ra := Lib.hid (Ra.out.below hbl)
        replace HNa := Lib.hid (HNa.out.below hbl)
        replace Re := Lib.hid (Re.out.below hbl)
        replace HNe := Lib.hid (HNe.out.below hbl)
        replace VX := Lib.hid (VX.out.below hbl VX.out.lt)
        replace VF := Lib.hid (VF.out.below hbl VF.out.lt)
        replace HW := Lib.hid (bel_trans HW.out hbl); clear hbl
        clear VX0 VX1 VX2 VF0 VF1
        have VX0 : w9.cell? ⟨w1.heap.size, 0, none⟩ = some (.bool false) := VX.out.cell 0
        have VX1 : w9.cell? ⟨w1.heap.size, 1, none⟩ = some (.slice Aa 0 ca) := VX.out.cell 1
        have VX2 : w9.cell? ⟨w1.heap.size, 2, none⟩ = some (.slice Ae 0 ce) := VX.out.cell 2
        have VF0 : w9.cell? ⟨w4.heap.size, 0, none⟩ = some (.string (dec an_)) := VF.out.cell 0
        have VF1 : w9.cell? ⟨w4.heap.size, 1, none⟩ = some (.string (dec cn_)) := VF.out.cell 1
        refine wpList_nil ?_
        clear hfd1 hfd2
        go_wp2_with fail
        refine (refOver_is n1 _ _ HO.out).mono ?_
        rintro e w6 ⟨rfl, hbl⟩
        replace Ra := Lib.hid (Ra.out.below hbl)
        replace HNa := Lib.hid (HNa.out.below hbl)
        replace Re := Lib.hid (Re.out.below hbl)
        replace HNe := Lib.hid (HNe.out.below hbl)
        replace VX := Lib.hid (VX.out.below hbl VX.out.lt)
        replace VF := Lib.hid (VF.out.below hbl VF.out.lt)
        replace HW := Lib.hid (bel_trans HW.out hbl); clear hbl
        clear VX0 VX1 VX2 VF0 VF1
        have VX0 : w6.cell? ⟨w1.heap.size, 0, none⟩ = some (.bool false) := VX.out.cell 0
        have VX1 : w6.cell? ⟨w1.heap.size, 1, none⟩ = some (.slice Aa 0 ca) := VX.out.cell 1
        have VX2 : w6.cell? ⟨w1.heap.size, 2, none⟩ = some (.slice Ae 0 ce) := VX.out.cell 2
        have VF0 : w6.cell? ⟨w4.heap.size, 0, none⟩ = some (.string (dec an_)) := VF.out.cell 0
        have VF1 : w6.cell? ⟨w4.heap.size, 1, none⟩ = some (.string (dec cn_)) := VF.out.cell 1
        go_wp2_with fail
        refine (alive3 _).mono ?_
        rintro e w7 ⟨rfl, hbl⟩
        replace Ra := Lib.hid (Ra.out.below hbl)
        replace HNa := Lib.hid (HNa.out.below hbl)
        replace Re := Lib.hid (Re.out.below hbl)
        replace HNe := Lib.hid (HNe.out.below hbl)
        replace VX := Lib.hid (VX.out.below hbl VX.out.lt)
        replace VF := Lib.hid (VF.out.below hbl VF.out.lt)
        replace HW := Lib.hid (bel_trans HW.out hbl); clear hbl
        clear VX0 VX1 VX2 VF0 VF1
        have VX0 : w7.cell? ⟨w1.heap.size, 0, none⟩ = some (.bool false) := VX.out.cell 0
        have VX1 : w7.cell? ⟨w1.heap.size, 1, none⟩ = some (.slice Aa 0 ca) := VX.out.cell 1
        have VX2 : w7.cell? ⟨w1.heap.size, 2, none⟩ = some (.slice Ae 0 ce) := VX.out.cell 2
        have VF0 : w7.cell? ⟨w4.heap.size, 0, none⟩ = some (.string (dec an_)) := VF.out.cell 0
        have VF1 : w7.cell? ⟨w4.heap.size, 1, none⟩ = some (.string (dec cn_)) := VF.out.cell 1
        go_wp2_with fail
        refine (same_none Aa Ae ca ce _).mono ?_
        rintro e w8 ⟨rfl, hbl⟩
        replace Ra := Lib.hid (Ra.out.below hbl)
        replace HNa := Lib.hid (HNa.out.below hbl)
        replace Re := Lib.hid (Re.out.below hbl)
        replace HNe := Lib.hid (HNe.out.below hbl)
        replace VX := Lib.hid (VX.out.below hbl VX.out.lt)
        replace VF := Lib.hid (VF.out.below hbl VF.out.lt)
        replace HW := Lib.hid (bel_trans HW.out hbl); clear hbl
        clear VX0 VX1 VX2 VF0 VF1
        have VX0 : w8.cell? ⟨w1.heap.size, 0, none⟩ = some (.bool false) := VX.out.cell 0
        have VX1 : w8.cell? ⟨w1.heap.size, 1, none⟩ = some (.slice Aa 0 ca) := VX.out.cell 1
        have VX2 : w8.cell? ⟨w1.heap.size, 2, none⟩ = some (.slice Ae 0 ce) := VX.out.cell 2
        have VF0 : w8.cell? ⟨w4.heap.size, 0, none⟩ = some (.string (dec an_)) := VF.out.cell 0
        have VF1 : w8.cell? ⟨w4.heap.size, 1, none⟩ = some (.string (dec cn_)) := VF.out.cell 1
        go_wp2
        go_ret
        exact ⟨rfl, HW.out⟩

set_option maxRecDepth 100000 in
set_option maxHeartbeats 1000000 in
theorem values_ovd_f {p q t : Nat} {b : Nat} {s : Bool} {n1 d1 : Nat} (N : Nat) (sz : Int) (w : World) (hv : ∀ w1, Calls Try.prog 47 #[.int .u64 (N : Int), .int .i64 sz] w1 (RetQE noQ 2 w1)) (hf : Fm sz p q t) (zz : (sz == 32) = false) (hbZ : b < 2 ^ (sz.toNat - 1)) (hs : b = 0 → s = false) (hN : N = b + s.toNat * 2 ^ (sz.toNat - 1)) (hb : ¬ (t + q + 2) * 2 ^ (p - 1) ≤ b) (hn1 : LN p q b = n1) (hd1 : LD p q b = d1) (ho : n1 < Top) (ho2 : Top ≤ d1) :
    Calls Try.prog 9 #[.int .u64 (N : Int), .int .i64 sz] w (RetT w) := by
  have HV := Lib.hid hv; clear hv
  have HZ := Lib.hid zz; clear zz
  obtain ⟨op1, op2, oq0, oq, ot, os1, os2⟩ := hf.ok
  have HF := Lib.hid hf; clear hf
  obtain ⟨z, hz3⟩ : ∃ z : Nat, sz = (z : Int) + 1 := ⟨sz.toNat - 1, by omega⟩
  have hz63 : z ≤ 63 := by omega
  have hzz : sz.toNat - 1 = z := by omega
  rw [hzz] at hbZ hN
  obtain ⟨Z, hZ⟩ : ∃ Z, Z = 2 ^ z := ⟨_, rfl⟩
  obtain ⟨H, hH⟩ : ∃ H, H = 2 ^ (p - 1) := ⟨_, rfl⟩
  obtain ⟨K, hK⟩ : ∃ K, K = t + q + 2 := ⟨_, rfl⟩
  have hZ1 : Z ≤ 9223372036854775808 := by rw [hZ]; exact Nat.pow_le_pow_right (n := 2) (j := 63) (by decide) hz63
  obtain ⟨SZ, hSZ⟩ : ∃ S, S = s.toNat * Z := ⟨_, rfl⟩
  have hsz : SZ ≤ Z := by rw [hSZ]; have := Nat.mul_le_mul_right Z (Bool.toNat_le s); omega
  have hbZ2 := hbZ
  have hN2 := hN
  rw [← hZ] at hbZ hN
  rw [← hSZ] at hN
  have hNlt : N < 18446744073709551616 := by omega
  have a1 : bits BinOp.and IntKind.u64 (N : Int) (Z : Int) = (SZ : Int) := by rw [u64_and_nat _ _ hNlt (by omega), hN2, hZ, and_high hbZ2, hSZ, hZ]
  have a2 : ((SZ : Int) != 0) = s := by
    rw [hSZ]
    have : 0 < Z := by rw [hZ]; exact Nat.pow_pos (by decide)
    cases s
    · simp
    · simp; omega
  have a3 : bits BinOp.andNot IntKind.u64 (N : Int) (Z : Int) = (b : Int) := by rw [u64_andNot_nat _ _ hNlt (by omega), hN2, hZ, andNot_high hbZ2 hz63]
  have hNZ : N ≠ Z := by
    have h0 : 0 < Z := by rw [hZ]; exact Nat.pow_pos (by decide)
    cases s
    · rw [hN, hSZ]; simp; omega
    · have : b ≠ 0 := fun h => by have := hs h; cases this
      rw [hN, hSZ]; simp; omega
  have a4 : ((N : Int) == (Z : Int)) = false := by simp only [beq_eq_false_iff_ne, ne_eq]; omega
  have a5 : ¬ (N : Int) = (Z : Int) := by omega
  obtain ⟨x, hx⟩ : ∃ x, x = b / H := ⟨_, rfl⟩
  have a6 : IntKind.i64.wrap ((p : Int) - 1) = ((p - 1 : Nat) : Int) := by rw [IntKind.wrap_i64]; omega
  have a7 : (2 : Int) ^ (p - 1) = (H : Int) := by rw [hH, Int.natCast_pow]; rfl
  have a8 : (b : Int) / (H : Int) = (x : Int) := by rw [hx]; exact (Int.natCast_ediv b H).symm
  have hxK : x ≠ K := by rw [hx, hK]; intro h; refine hb ?_; rw [← h, ← hH]; exact Nat.div_mul_le_self b H
  have a9 : ((x : Int) == (K : Int)) = false := by simp only [beq_eq_false_iff_ne, ne_eq]; omega
  clear hxK
  have HHZ := Lib.hid (show Z = 2 ^ (sz.toNat - 1) by rw [hzz]; exact hZ)
  have HK := Lib.hid hK; clear hK
  clear hz3 hz63 hzz hZ hH hZ1 hSZ hsz hbZ2 hN2 hN hNlt hNZ hx hbZ hs
  have hble : b ≤ (t + q + 2) * 2 ^ (p - 1) := by omega
  obtain ⟨an_, han⟩ : ∃ a, FN p q b = a := ⟨_, rfl⟩
  obtain ⟨cn_, hcn⟩ : ∃ a, FD p q b = a := ⟨_, rfl⟩
  obtain ⟨g, hg⟩ : ∃ g, Nat.gcd an_ cn_ = g := ⟨_, rfl⟩
  have l1 := FN_len HF.out hble
  have l2 := FD_len (b := b) HF.out
  have hc0p := FD_pos p q b
  rw [han] at l1
  rw [hcn] at l2 hc0p
  have hgl : (decL g).length ≤ 340 := Nat.le_trans (decL_mono (by rw [← hg]; exact Nat.gcd_le_right an_ hc0p)) l2
  have hg0 : g ≠ 0 := by rw [← hg]; exact Nat.ne_of_gt (Nat.gcd_pos_of_pos_right _ hc0p)
  have hq1 : an_ / g = n1 := by rw [← hn1, ← hg, ← han, ← hcn]; rfl
  have hq2 : cn_ / g = d1 := by rw [← hd1, ← hg, ← han, ← hcn]; rfl
  obtain ⟨r1, hr1⟩ : ∃ r, an_ % g = r := ⟨_, rfl⟩
  obtain ⟨r2, hr2⟩ : ∃ r, cn_ % g = r := ⟨_, rfl⟩
  have HG := Lib.hid (And.intro hble (And.intro han (And.intro hcn (And.intro hg (And.intro l1 (And.intro l2 (And.intro hgl (And.intro hg0 (And.intro hq1 (And.intro hq2 (And.intro hr1 hr2))))))))))); clear hble han hcn hg l1 l2 hc0p hgl hg0 hq1 hq2 hr1 hr2 hb hn1 hd1
  have HO := Lib.hid (And.intro (decide_eq_false (show ¬ Top ≤ n1 by omega)) (decide_eq_true ho2)); clear ho ho2
  have hfd1 := fun W => field_q (dec n1) (dec r1) W
  have hfd2 := fun W => field_q (dec d1) (dec r2) W
  have HW := Lib.hid (bel_refl w)
  go_enter Try.func9, Try.ntmps9
  go_wp2_with fail
  refine (HV.out _).mono ?_
  rintro e w1 ⟨va, ve, rfl, hna, hne, hbl⟩
  replace HW := Lib.hid (bel_trans HW.out hbl); clear hbl
  have HNa := Lib.hid hna; clear hna
  obtain ⟨Aa, ca, rfl, hca, hra⟩ := HNa.out.row
  have Ra := Lib.hid hra; have HCa := Lib.hid hca; clear hra hca
  have HNe := Lib.hid hne; clear hne
  obtain ⟨Ae, ce, rfl, hce, hre⟩ := HNe.out.row
  have Re := Lib.hid hre; have HCe := Lib.hid hce; clear hre hce
  rw [show noQ.s = false from rfl, show noQ.n = 0 from rfl, show noQ.d = 0 from rfl, limbs0]
  go_upto_region 2 with fail
  obtain ⟨wm, hwm⟩ : ∃ wm, wm = w1.alloc (.cells #[.bool false, .slice Aa 0 ca, .slice Ae 0 ce] 25) := ⟨_, rfl⟩
  rw [← hwm]
  have hbl : Below w1.heap.size w1 wm := by rw [hwm]; exact bel_alloc (bel_refl _) _
  have VX : Blk wm (w1.heap.size) 25 #[.bool false, .slice Aa 0 ca, .slice Ae 0 ce] := by
    have hz := Blk.new (w1) 25 #[.bool false, .slice Aa 0 ca, .slice Ae 0 ce]
    rw [hwm]
    exact hz
  clear hwm
  replace Ra := Lib.hid (Ra.out.below hbl)
  replace HNa := Lib.hid (HNa.out.below hbl)
  replace Re := Lib.hid (Re.out.below hbl)
  replace HNe := Lib.hid (HNe.out.below hbl)
  replace HW := Lib.hid (bel_trans HW.out hbl); clear hbl
  replace VX := Lib.hid VX
  have VX0 : wm.cell? ⟨w1.heap.size, 0, none⟩ = some (.bool false) := VX.out.cell 0
  have VX1 : wm.cell? ⟨w1.heap.size, 1, none⟩ = some (.slice Aa 0 ca) := VX.out.cell 1
  have VX2 : wm.cell? ⟨w1.heap.size, 2, none⟩ = some (.slice Ae 0 ce) := VX.out.cell 2
  go_cut [39] (fun v wx => v = .bool false ∧ Below wm.heap.size wm wx)
  case first =>
    obtain rfl : sz = 64 := by rcases HF.out with h | h; have h2 := HZ.out; rw [h.1] at h2; cases h2; exact h.1
    go_wp2_with fail
    refine (high3_any HF.out _ (H := Z) HHZ.out).mono ?_
    rintro e w7 ⟨rfl, hbl⟩
    have H7 := Lib.hid hbl; clear hbl
    go_wp2_with fail
    go_meet
    exact ⟨rfl, H7.out⟩
  case rest =>
    obtain ⟨rfl, hbl⟩ := hcut
    replace Ra := Lib.hid (Ra.out.below hbl)
    replace HNa := Lib.hid (HNa.out.below hbl)
    replace Re := Lib.hid (Re.out.below hbl)
    replace HNe := Lib.hid (HNe.out.below hbl)
    replace VX := Lib.hid (VX.out.below hbl VX.out.lt)
    replace HW := Lib.hid (bel_trans HW.out hbl); clear hbl
    clear VX0 VX1 VX2
    have VX0 : wc.cell? ⟨w1.heap.size, 0, none⟩ = some (.bool false) := VX.out.cell 0
    have VX1 : wc.cell? ⟨w1.heap.size, 1, none⟩ = some (.slice Aa 0 ca) := VX.out.cell 1
    have VX2 : wc.cell? ⟨w1.heap.size, 2, none⟩ = some (.slice Ae 0 ce) := VX.out.cell 2
    go_wp2_with fail
    refine (high3_any HF.out _ HHZ.out).mono ?_
    rintro e w2 ⟨rfl, hbl⟩
    replace Ra := Lib.hid (Ra.out.below hbl)
    replace HNa := Lib.hid (HNa.out.below hbl)
    replace Re := Lib.hid (Re.out.below hbl)
    replace HNe := Lib.hid (HNe.out.below hbl)
    replace VX := Lib.hid (VX.out.below hbl VX.out.lt)
    replace HW := Lib.hid (bel_trans HW.out hbl); clear hbl
    clear VX0 VX1 VX2
    have VX0 : w2.cell? ⟨w1.heap.size, 0, none⟩ = some (.bool false) := VX.out.cell 0
    have VX1 : w2.cell? ⟨w1.heap.size, 1, none⟩ = some (.slice Aa 0 ca) := VX.out.cell 1
    have VX2 : w2.cell? ⟨w1.heap.size, 2, none⟩ = some (.slice Ae 0 ce) := VX.out.cell 2
    go_wp2_with fail
    refine (high3_any HF.out _ HHZ.out).mono ?_
    rintro e w3 ⟨rfl, hbl⟩
    replace Ra := Lib.hid (Ra.out.below hbl)
    replace HNa := Lib.hid (HNa.out.below hbl)
    replace Re := Lib.hid (Re.out.below hbl)
    replace HNe := Lib.hid (HNe.out.below hbl)
    replace VX := Lib.hid (VX.out.below hbl VX.out.lt)
    replace HW := Lib.hid (bel_trans HW.out hbl); clear hbl
    clear VX0 VX1 VX2
    have VX0 : w3.cell? ⟨w1.heap.size, 0, none⟩ = some (.bool false) := VX.out.cell 0
    have VX1 : w3.cell? ⟨w1.heap.size, 1, none⟩ = some (.slice Aa 0 ca) := VX.out.cell 1
    have VX2 : w3.cell? ⟨w1.heap.size, 2, none⟩ = some (.slice Ae 0 ce) := VX.out.cell 2
    go_upto_region 5 with fail
    refine wp_region_typed 8 (TOf [VIs (.int .u64 (b : Int)),
        VIs (.int .i64 sz),
        VIs (.int .i64 (p : Int)),
        VIs (.int .i64 ((p - 1 : Nat) : Int)),
        VIs (.int .u64 (x : Int)),
        VIs (.int .i64 sz),
        VIs (.int .u64 (K : Int)),
        VIs (.bool false)]) (by kernel_rfl) (by kernel_rfl) (by kernel_rfl) (LiftAll.at_ (.cons (VIs.lift _) (.cons (VIs.lift _) (.cons (VIs.lift _) (.cons (VIs.lift _) (.cons (VIs.lift _) (.cons (VIs.lift _) (.cons (VIs.lift _) (.cons (VIs.lift _) .nil))))))))) (steps_all (steps_cons ?_ (steps_cons ?_ (steps_cons ?_ (steps_cons ?_ (steps_cons ?_ (steps_cons ?_ (steps_cons ?_ (steps_cons ?_ steps_zero))))))))) ?fin
    · intro a0 w9 K9 hF hB hK hC
      have b8 := hF.base (k := 8) (v := .int .u64 (b : Int)) (by kernel_rfl) rfl
      clear hF hB hK
      go_simp
      exact hC _ _ (bel_refl _) fun _ _ => rfl
    · intro a0 w9 K9 hF hB hK hC
      have b1 := hF.base (k := 1) (v := .int .i64 sz) (by kernel_rfl) rfl
      clear hF hB hK
      go_simp
      exact hC _ _ (bel_refl _) fun _ _ => rfl
    · intro a0 w9 K9 hF hB hK hC
      obtain ⟨v60, e60, z60⟩ := dep hK 0 (g := .data) (j := 1) (k := 60) rfl rfl rfl
      have z60 : v60 = .int .i64 sz := z60
      subst z60
      have HB9 := Lib.hid hB
      clear hF hB hK
      go_simp
      refine (refMant_any HF.out _).mono ?_
      rintro e w7 ⟨rfl, hbl⟩
      exact hC _ _ hbl fun _ _ => rfl
    · intro a0 w9 K9 hF hB hK hC
      obtain ⟨v61, e61, z61⟩ := dep hK 0 (g := .data) (j := 2) (k := 61) rfl rfl rfl
      have z61 : v61 = .int .i64 (p : Int) := z61
      subst z61
      have HB9 := Lib.hid hB
      clear hF hB hK
      go_simp
      exact hC _ _ (bel_refl _) fun _ _ => rfl
    · intro a0 w9 K9 hF hB hK hC
      obtain ⟨v59, e59, z59⟩ := dep hK 0 (g := .data) (j := 0) (k := 59) rfl rfl rfl
      have z59 : v59 = .int .u64 (b : Int) := z59
      subst z59
      obtain ⟨v62, e62, z62⟩ := dep hK 1 (g := .data) (j := 3) (k := 62) rfl rfl rfl
      have z62 : v62 = .int .i64 ((p - 1 : Nat) : Int) := z62
      subst z62
      have HB9 := Lib.hid hB
      clear hF hB hK
      go_simp
      exact hC _ _ (bel_refl _) fun _ _ => rfl
    · intro a0 w9 K9 hF hB hK hC
      have b1 := hF.base (k := 1) (v := .int .i64 sz) (by kernel_rfl) rfl
      clear hF hB hK
      go_simp
      exact hC _ _ (bel_refl _) fun _ _ => rfl
    · intro a0 w9 K9 hF hB hK hC
      obtain ⟨v64, e64, z64⟩ := dep hK 0 (g := .data) (j := 5) (k := 64) rfl rfl rfl
      have z64 : v64 = .int .i64 sz := z64
      subst z64
      have HB9 := Lib.hid hB
      clear hF hB hK
      go_simp
      refine (refHigh_is3 HF.out _ HK.out).mono ?_
      rintro e w7 ⟨rfl, hbl⟩
      exact hC _ _ hbl fun _ _ => rfl
    · intro a0 w9 K9 hF hB hK hC
      obtain ⟨v63, e63, z63⟩ := dep hK 0 (g := .data) (j := 4) (k := 63) rfl rfl rfl
      have z63 : v63 = .int .u64 (x : Int) := z63
      subst z63
      obtain ⟨v65, e65, z65⟩ := dep hK 1 (g := .data) (j := 6) (k := 65) rfl rfl rfl
      have z65 : v65 = .int .u64 (K : Int) := z65
      subst z65
      have HB9 := Lib.hid hB
      clear hF hB hK
      go_simp
      exact hC _ _ (bel_refl _) fun _ _ => rfl
    case fin =>
      intro a0 w9 hF hB hK
      have b1 := hF.base (k := 1) (v := .int .i64 sz) (by kernel_rfl) rfl
      have b5 := hF.base (k := 5) (v := .pointer (some ⟨w1.heap.size, 0, none⟩)) (by kernel_rfl) rfl
      have b6 := hF.base (k := 6) (v := .int .i64 2) (by kernel_rfl) rfl
      have b7 := hF.base (k := 7) (v := .bool s) (by kernel_rfl) rfl
      have b8 := hF.base (k := 8) (v := .int .u64 (b : Int)) (by kernel_rfl) rfl
      have hsz := hF.size
      have hdf := hF.defers
      clear hF
      obtain ⟨v66, e66, z66⟩ := known hK 7 (k := 66) (by decide) rfl
      have z66 : v66 = .bool false := z66
      subst z66
      clear hK
      obtain ⟨⟨l0⟩, df⟩ := a0
      have hs0 : l0.length = 124 := hsz
      clear hsz
      replace hdf : df = _ := hdf
      subst hdf
      obtain ⟨u, rfl⟩ := lits_124 hs0
      clear hs0
      have q1 : u 1 = _ := Option.some.inj b1
      clear b1
      have q5 : u 5 = _ := Option.some.inj b5
      clear b5
      have q6 : u 6 = _ := Option.some.inj b6
      clear b6
      have q7 : u 7 = _ := Option.some.inj b7
      clear b7
      have q8 : u 8 = _ := Option.some.inj b8
      clear b8
      have q66 : u 66 = _ := Option.some.inj e66
      clear e66
      rw [q1, q5, q6, q7, q8, q66]
      clear q1 q5 q6 q7 q8 q66
      have hbl := hB; clear hB
      replace Ra := Lib.hid (Ra.out.below hbl)
      replace HNa := Lib.hid (HNa.out.below hbl)
      replace Re := Lib.hid (Re.out.below hbl)
      replace HNe := Lib.hid (HNe.out.below hbl)
      replace VX := Lib.hid (VX.out.below hbl VX.out.lt)
      replace HW := Lib.hid (bel_trans HW.out hbl); clear hbl
      clear VX0 VX1 VX2
      have VX0 : w9.cell? ⟨w1.heap.size, 0, none⟩ = some (.bool false) := VX.out.cell 0
      have VX1 : w9.cell? ⟨w1.heap.size, 1, none⟩ = some (.slice Aa 0 ca) := VX.out.cell 1
      have VX2 : w9.cell? ⟨w1.heap.size, 2, none⟩ = some (.slice Ae 0 ce) := VX.out.cell 2
      refine wpList_nil ?_
      go_wp2_with fail
      refine (refFrac_is3 HF.out b _ HG.out.1 HG.out.2.1 HG.out.2.2.1).mono ?_
      rintro e w4 ⟨rfl, hbl⟩
      replace Ra := Lib.hid (Ra.out.below hbl)
      replace HNa := Lib.hid (HNa.out.below hbl)
      replace Re := Lib.hid (Re.out.below hbl)
      replace HNe := Lib.hid (HNe.out.below hbl)
      replace VX := Lib.hid (VX.out.below hbl VX.out.lt)
      replace HW := Lib.hid (bel_trans HW.out hbl); clear hbl
      clear VX0 VX1 VX2
      have VX0 : w4.cell? ⟨w1.heap.size, 0, none⟩ = some (.bool false) := VX.out.cell 0
      have VX1 : w4.cell? ⟨w1.heap.size, 1, none⟩ = some (.slice Aa 0 ca) := VX.out.cell 1
      have VX2 : w4.cell? ⟨w1.heap.size, 2, none⟩ = some (.slice Ae 0 ce) := VX.out.cell 2
      go_upto_region 8 with fail
      obtain ⟨wf, hwf⟩ : ∃ wf, wf = w4.alloc (.cells #[.string (dec an_), .string (dec cn_)] 38) := ⟨_, rfl⟩
      rw [← hwf]
      have hbl : Below w4.heap.size w4 wf := by rw [hwf]; exact bel_alloc (bel_refl _) _
      have VF : Blk wf (w4.heap.size) 38 #[.string (dec an_), .string (dec cn_)] := by
        have hz := Blk.new (w4) 38 #[.string (dec an_), .string (dec cn_)]
        rw [hwf]
        exact hz
      clear hwf
      replace Ra := Lib.hid (Ra.out.below hbl)
      replace HNa := Lib.hid (HNa.out.below hbl)
      replace Re := Lib.hid (Re.out.below hbl)
      replace HNe := Lib.hid (HNe.out.below hbl)
      replace VX := Lib.hid (VX.out.below hbl VX.out.lt)
      replace HW := Lib.hid (bel_trans HW.out hbl); clear hbl
      replace VF := Lib.hid VF
      clear VX0 VX1 VX2
      have VX0 : wf.cell? ⟨w1.heap.size, 0, none⟩ = some (.bool false) := VX.out.cell 0
      have VX1 : wf.cell? ⟨w1.heap.size, 1, none⟩ = some (.slice Aa 0 ca) := VX.out.cell 1
      have VX2 : wf.cell? ⟨w1.heap.size, 2, none⟩ = some (.slice Ae 0 ce) := VX.out.cell 2
      have VF0 : wf.cell? ⟨w4.heap.size, 0, none⟩ = some (.string (dec an_)) := VF.out.cell 0
      have VF1 : wf.cell? ⟨w4.heap.size, 1, none⟩ = some (.string (dec cn_)) := VF.out.cell 1
      go_wp2_with fail
      refine (refCommon_is an_ cn_ _ (by have := HG.out.2.2.2.2.1; omega) (by have := HG.out.2.2.2.2.2.1; omega) HG.out.2.2.2.1).mono ?_
      rintro e w5 ⟨rfl, hbl⟩
      replace Ra := Lib.hid (Ra.out.below hbl)
      replace HNa := Lib.hid (HNa.out.below hbl)
      replace Re := Lib.hid (Re.out.below hbl)
      replace HNe := Lib.hid (HNe.out.below hbl)
      replace VX := Lib.hid (VX.out.below hbl VX.out.lt)
      replace VF := Lib.hid (VF.out.below hbl VF.out.lt)
      replace HW := Lib.hid (bel_trans HW.out hbl); clear hbl
      clear VX0 VX1 VX2 VF0 VF1
      have VX0 : w5.cell? ⟨w1.heap.size, 0, none⟩ = some (.bool false) := VX.out.cell 0
      have VX1 : w5.cell? ⟨w1.heap.size, 1, none⟩ = some (.slice Aa 0 ca) := VX.out.cell 1
      have VX2 : w5.cell? ⟨w1.heap.size, 2, none⟩ = some (.slice Ae 0 ce) := VX.out.cell 2
      have VF0 : w5.cell? ⟨w4.heap.size, 0, none⟩ = some (.string (dec an_)) := VF.out.cell 0
      have VF1 : w5.cell? ⟨w4.heap.size, 1, none⟩ = some (.string (dec cn_)) := VF.out.cell 1
      go_upto_region 9 with fail
      refine wp_region_typed 12 (TOf [VIs (.pointer (some ⟨w4.heap.size, 0, none⟩)),
          VIs (.string (dec an_)),
          VIs (.string (dec g)),
          VIs (.agg #[.string (dec n1), .string (dec r1)]),
          VIs (.string (dec n1)),
          VIs (.pointer (some ⟨w4.heap.size, 1, none⟩)),
          VIs (.string (dec cn_)),
          VIs (.string (dec g)),
          VIs (.agg #[.string (dec d1), .string (dec r2)]),
          VIs (.string (dec d1)),
          VIs (.string (dec n1)),
          VIs (.string (dec d1))]) (by kernel_rfl) (by kernel_rfl) (by kernel_rfl) (LiftAll.at_ (.cons (VIs.lift _) (.cons (VIs.lift _) (.cons (VIs.lift _) (.cons (VIs.lift _) (.cons (VIs.lift _) (.cons (VIs.lift _) (.cons (VIs.lift _) (.cons (VIs.lift _) (.cons (VIs.lift _) (.cons (VIs.lift _) (.cons (VIs.lift _) (.cons (VIs.lift _) .nil))))))))))))) (steps_all (steps_cons ?_ (steps_cons ?_ (steps_cons ?_ (steps_cons ?_ (steps_cons ?_ (steps_cons ?_ (steps_cons ?_ (steps_cons ?_ (steps_cons ?_ (steps_cons ?_ (steps_cons ?_ (steps_cons ?_ steps_zero))))))))))))) ?fin
      · intro a0 w9 K9 hF hB hK hC
        have b9 := hF.base (k := 9) (v := .pointer (some ⟨w4.heap.size, 0, none⟩)) (by kernel_rfl) rfl
        clear hF hB hK
        go_simp
        exact hC _ _ (bel_refl _) fun _ _ => rfl
      · intro a0 w9 K9 hF hB hK hC
        obtain ⟨v85, e85, z85⟩ := dep hK 0 (g := .data) (j := 0) (k := 85) rfl rfl rfl
        have z85 : v85 = .pointer (some ⟨w4.heap.size, 0, none⟩) := z85
        subst z85
        have x9 : w9.cell? ⟨w4.heap.size, 0, none⟩ = some (.string (dec an_)) := (VF.out.below hB VF.out.lt).cell 0
        clear hF hB hK
        go_simp
        exact hC _ _ (bel_refl _) fun _ _ => rfl
      · intro a0 w9 K9 hF hB hK hC
        have b10 := hF.base (k := 10) (v := .string (dec g)) (by kernel_rfl) rfl
        clear hF hB hK
        go_simp
        exact hC _ _ (bel_refl _) fun _ _ => rfl
      · intro a0 w9 K9 hF hB hK hC
        obtain ⟨v86, e86, z86⟩ := dep hK 0 (g := .data) (j := 1) (k := 86) rfl rfl rfl
        have z86 : v86 = .string (dec an_) := z86
        subst z86
        obtain ⟨v87, e87, z87⟩ := dep hK 1 (g := .data) (j := 2) (k := 87) rfl rfl rfl
        have z87 : v87 = .string (dec g) := z87
        subst z87
        have HB9 := Lib.hid hB
        clear hF hB hK
        go_simp
        refine (refDiv_is an_ g _ (by have := HG.out.2.2.2.2.1; omega) (by have := HG.out.2.2.2.2.2.2.1; omega) HG.out.2.2.2.2.2.2.2.1 HG.out.2.2.2.2.2.2.2.2.1 HG.out.2.2.2.2.2.2.2.2.2.2.1).mono ?_
        rintro e w7 ⟨rfl, hbl⟩
        exact hC _ _ hbl fun _ _ => rfl
      · intro a0 w9 K9 hF hB hK hC
        obtain ⟨v88, e88, z88⟩ := dep hK 0 (g := .data) (j := 3) (k := 88) rfl rfl rfl
        have z88 : v88 = .agg #[.string (dec n1), .string (dec r1)] := z88
        subst z88
        have HB9 := Lib.hid hB
        clear hF hB hK
        go_simp
        exact hC _ _ (bel_refl _) fun _ _ => rfl
      · intro a0 w9 K9 hF hB hK hC
        have b9 := hF.base (k := 9) (v := .pointer (some ⟨w4.heap.size, 0, none⟩)) (by kernel_rfl) rfl
        clear hF hB hK
        go_simp
        exact hC _ _ (bel_refl _) fun _ _ => rfl
      · intro a0 w9 K9 hF hB hK hC
        obtain ⟨v90, e90, z90⟩ := dep hK 0 (g := .data) (j := 5) (k := 90) rfl rfl rfl
        have z90 : v90 = .pointer (some ⟨w4.heap.size, 1, none⟩) := z90
        subst z90
        have x9 : w9.cell? ⟨w4.heap.size, 1, none⟩ = some (.string (dec cn_)) := (VF.out.below hB VF.out.lt).cell 1
        clear hF hB hK
        go_simp
        exact hC _ _ (bel_refl _) fun _ _ => rfl
      · intro a0 w9 K9 hF hB hK hC
        have b10 := hF.base (k := 10) (v := .string (dec g)) (by kernel_rfl) rfl
        clear hF hB hK
        go_simp
        exact hC _ _ (bel_refl _) fun _ _ => rfl
      · intro a0 w9 K9 hF hB hK hC
        obtain ⟨v91, e91, z91⟩ := dep hK 0 (g := .data) (j := 6) (k := 91) rfl rfl rfl
        have z91 : v91 = .string (dec cn_) := z91
        subst z91
        obtain ⟨v92, e92, z92⟩ := dep hK 1 (g := .data) (j := 7) (k := 92) rfl rfl rfl
        have z92 : v92 = .string (dec g) := z92
        subst z92
        have HB9 := Lib.hid hB
        clear hF hB hK
        go_simp
        refine (refDiv_is cn_ g _ (by have := HG.out.2.2.2.2.2.1; omega) (by have := HG.out.2.2.2.2.2.2.1; omega) HG.out.2.2.2.2.2.2.2.1 HG.out.2.2.2.2.2.2.2.2.2.1 HG.out.2.2.2.2.2.2.2.2.2.2.2).mono ?_
        rintro e w7 ⟨rfl, hbl⟩
        exact hC _ _ hbl fun _ _ => rfl
      · intro a0 w9 K9 hF hB hK hC
        obtain ⟨v93, e93, z93⟩ := dep hK 0 (g := .data) (j := 8) (k := 93) rfl rfl rfl
        have z93 : v93 = .agg #[.string (dec d1), .string (dec r2)] := z93
        subst z93
        have HB9 := Lib.hid hB
        clear hF hB hK
        go_simp
        exact hC _ _ (bel_refl _) fun _ _ => rfl
      · intro a0 w9 K9 hF hB hK hC
        obtain ⟨v89, e89, z89⟩ := dep hK 0 (g := .data) (j := 4) (k := 89) rfl rfl rfl
        have z89 : v89 = .string (dec n1) := z89
        subst z89
        clear hF hB hK
        go_simp
        exact hC _ _ (bel_refl _) fun _ _ => rfl
      · intro a0 w9 K9 hF hB hK hC
        obtain ⟨v94, e94, z94⟩ := dep hK 0 (g := .data) (j := 9) (k := 94) rfl rfl rfl
        have z94 : v94 = .string (dec d1) := z94
        subst z94
        clear hF hB hK
        go_simp
        exact hC _ _ (bel_refl _) fun _ _ => rfl
      case fin =>
        intro a0 w9 hF hB hK
        have b1 := hF.base (k := 1) (v := .int .i64 sz) (by kernel_rfl) rfl
        have b5 := hF.base (k := 5) (v := .pointer (some ⟨w1.heap.size, 0, none⟩)) (by kernel_rfl) rfl
        have b6 := hF.base (k := 6) (v := .int .i64 2) (by kernel_rfl) rfl
        have b7 := hF.base (k := 7) (v := .bool s) (by kernel_rfl) rfl
        have b8 := hF.base (k := 8) (v := .int .u64 (b : Int)) (by kernel_rfl) rfl
        have b9 := hF.base (k := 9) (v := .pointer (some ⟨w4.heap.size, 0, none⟩)) (by kernel_rfl) rfl
        have b10 := hF.base (k := 10) (v := .string (dec g)) (by kernel_rfl) rfl
        have hsz := hF.size
        have hdf := hF.defers
        clear hF
        obtain ⟨v11, e11, z11⟩ := known hK 10 (k := 11) (by decide) rfl
        have z11 : v11 = .string (dec n1) := z11
        subst z11
        obtain ⟨v12, e12, z12⟩ := known hK 11 (k := 12) (by decide) rfl
        have z12 : v12 = .string (dec d1) := z12
        subst z12
        clear hK
        obtain ⟨⟨l0⟩, df⟩ := a0
        have hs0 : l0.length = 124 := hsz
        clear hsz
        replace hdf : df = _ := hdf
        subst hdf
        obtain ⟨u, rfl⟩ := lits_124 hs0
        clear hs0
        have q1 : u 1 = _ := Option.some.inj b1
        clear b1
        have q5 : u 5 = _ := Option.some.inj b5
        clear b5
        have q6 : u 6 = _ := Option.some.inj b6
        clear b6
        have q7 : u 7 = _ := Option.some.inj b7
        clear b7
        have q8 : u 8 = _ := Option.some.inj b8
        clear b8
        have q9 : u 9 = _ := Option.some.inj b9
        clear b9
        have q10 : u 10 = _ := Option.some.inj b10
        clear b10
        have q11 : u 11 = _ := Option.some.inj e11
        clear e11
        have q12 : u 12 = _ := Option.some.inj e12
        clear e12
        rw [q1, q5, q6, q7, q8, q9, q10, q11, q12]
        clear q1 q5 q6 q7 q8 q9 q10 q11 q12
        have hbl := hB; clear hB
        replace Ra := Lib.hid (Ra.out.below hbl)
        replace HNa := Lib.hid (HNa.out.below hbl)
        replace Re := Lib.hid (Re.out.below hbl)
        replace HNe := Lib.hid (HNe.out.below hbl)
        replace VX := Lib.hid (VX.out.below hbl VX.out.lt)
        replace VF := Lib.hid (VF.out.below hbl VF.out.lt)
        replace HW := Lib.hid (bel_trans HW.out hbl); clear hbl
        clear VX0 VX1 VX2 VF0 VF1
        have VX0 : w9.cell? ⟨w1.heap.size, 0, none⟩ = some (.bool false) := VX.out.cell 0
        have VX1 : w9.cell? ⟨w1.heap.size, 1, none⟩ = some (.slice Aa 0 ca) := VX.out.cell 1
        have VX2 : w9.cell? ⟨w1.heap.size, 2, none⟩ = some (.slice Ae 0 ce) := VX.out.cell 2
        have VF0 : w9.cell? ⟨w4.heap.size, 0, none⟩ = some (.string (dec an_)) := VF.out.cell 0
        have VF1 : w9.cell? ⟨w4.heap.size, 1, none⟩ = some (.string (dec cn_)) := VF.out.cell 1
        refine wpList_nil ?_
        clear hfd1 hfd2
        go_wp2_with fail
        refine (refOver_is n1 _ _ HO.out.1).mono ?_
        rintro e w6 ⟨rfl, hbl⟩
        replace Ra := Lib.hid (Ra.out.below hbl)
        replace HNa := Lib.hid (HNa.out.below hbl)
        replace Re := Lib.hid (Re.out.below hbl)
        replace HNe := Lib.hid (HNe.out.below hbl)
        replace VX := Lib.hid (VX.out.below hbl VX.out.lt)
        replace VF := Lib.hid (VF.out.below hbl VF.out.lt)
        replace HW := Lib.hid (bel_trans HW.out hbl); clear hbl
        clear VX0 VX1 VX2 VF0 VF1
        have VX0 : w6.cell? ⟨w1.heap.size, 0, none⟩ = some (.bool false) := VX.out.cell 0
        have VX1 : w6.cell? ⟨w1.heap.size, 1, none⟩ = some (.slice Aa 0 ca) := VX.out.cell 1
        have VX2 : w6.cell? ⟨w1.heap.size, 2, none⟩ = some (.slice Ae 0 ce) := VX.out.cell 2
        have VF0 : w6.cell? ⟨w4.heap.size, 0, none⟩ = some (.string (dec an_)) := VF.out.cell 0
        have VF1 : w6.cell? ⟨w4.heap.size, 1, none⟩ = some (.string (dec cn_)) := VF.out.cell 1
        go_wp2_with fail
        refine (refOver_is d1 _ _ HO.out.2).mono ?_
        rintro e w7 ⟨rfl, hbl⟩
        replace Ra := Lib.hid (Ra.out.below hbl)
        replace HNa := Lib.hid (HNa.out.below hbl)
        replace Re := Lib.hid (Re.out.below hbl)
        replace HNe := Lib.hid (HNe.out.below hbl)
        replace VX := Lib.hid (VX.out.below hbl VX.out.lt)
        replace VF := Lib.hid (VF.out.below hbl VF.out.lt)
        replace HW := Lib.hid (bel_trans HW.out hbl); clear hbl
        clear VX0 VX1 VX2 VF0 VF1
        have VX0 : w7.cell? ⟨w1.heap.size, 0, none⟩ = some (.bool false) := VX.out.cell 0
        have VX1 : w7.cell? ⟨w1.heap.size, 1, none⟩ = some (.slice Aa 0 ca) := VX.out.cell 1
        have VX2 : w7.cell? ⟨w1.heap.size, 2, none⟩ = some (.slice Ae 0 ce) := VX.out.cell 2
        have VF0 : w7.cell? ⟨w4.heap.size, 0, none⟩ = some (.string (dec an_)) := VF.out.cell 0
        have VF1 : w7.cell? ⟨w4.heap.size, 1, none⟩ = some (.string (dec cn_)) := VF.out.cell 1
        go_wp2_with fail
        refine (alive3 _).mono ?_
        rintro e w8 ⟨rfl, hbl⟩
        replace Ra := Lib.hid (Ra.out.below hbl)
        replace HNa := Lib.hid (HNa.out.below hbl)
        replace Re := Lib.hid (Re.out.below hbl)
        replace HNe := Lib.hid (HNe.out.below hbl)
        replace VX := Lib.hid (VX.out.below hbl VX.out.lt)
        replace VF := Lib.hid (VF.out.below hbl VF.out.lt)
        replace HW := Lib.hid (bel_trans HW.out hbl); clear hbl
        clear VX0 VX1 VX2 VF0 VF1
        have VX0 : w8.cell? ⟨w1.heap.size, 0, none⟩ = some (.bool false) := VX.out.cell 0
        have VX1 : w8.cell? ⟨w1.heap.size, 1, none⟩ = some (.slice Aa 0 ca) := VX.out.cell 1
        have VX2 : w8.cell? ⟨w1.heap.size, 2, none⟩ = some (.slice Ae 0 ce) := VX.out.cell 2
        have VF0 : w8.cell? ⟨w4.heap.size, 0, none⟩ = some (.string (dec an_)) := VF.out.cell 0
        have VF1 : w8.cell? ⟨w4.heap.size, 1, none⟩ = some (.string (dec cn_)) := VF.out.cell 1
        go_wp2_with fail
        refine (same_none Aa Ae ca ce _).mono ?_
        rintro e w9 ⟨rfl, hbl⟩
        replace Ra := Lib.hid (Ra.out.below hbl)
        replace HNa := Lib.hid (HNa.out.below hbl)
        replace Re := Lib.hid (Re.out.below hbl)
        replace HNe := Lib.hid (HNe.out.below hbl)
        replace VX := Lib.hid (VX.out.below hbl VX.out.lt)
        replace VF := Lib.hid (VF.out.below hbl VF.out.lt)
        replace HW := Lib.hid (bel_trans HW.out hbl); clear hbl
        clear VX0 VX1 VX2 VF0 VF1
        have VX0 : w9.cell? ⟨w1.heap.size, 0, none⟩ = some (.bool false) := VX.out.cell 0
        have VX1 : w9.cell? ⟨w1.heap.size, 1, none⟩ = some (.slice Aa 0 ca) := VX.out.cell 1
        have VX2 : w9.cell? ⟨w1.heap.size, 2, none⟩ = some (.slice Ae 0 ce) := VX.out.cell 2
        have VF0 : w9.cell? ⟨w4.heap.size, 0, none⟩ = some (.string (dec an_)) := VF.out.cell 0
        have VF1 : w9.cell? ⟨w4.heap.size, 1, none⟩ = some (.string (dec cn_)) := VF.out.cell 1
        go_wp2
        go_ret
        exact ⟨rfl, HW.out⟩

set_option maxRecDepth 100000 in
set_option maxHeartbeats 1000000 in
theorem values_ovd_t {p q t : Nat} {b : Nat} {s : Bool} {n1 d1 : Nat} (N : Nat) (sz : Int) (w : World) (hv : ∀ w1, Calls Try.prog 47 #[.int .u64 (N : Int), .int .i64 sz] w1 (RetQE noQ 2 w1)) (hf : Fm sz p q t) (zz : (sz == 32) = true) (hbZ : b < 2 ^ (sz.toNat - 1)) (hs : b = 0 → s = false) (hN : N = b + s.toNat * 2 ^ (sz.toNat - 1)) (hb : ¬ (t + q + 2) * 2 ^ (p - 1) ≤ b) (hn1 : LN p q b = n1) (hd1 : LD p q b = d1) (ho : n1 < Top) (ho2 : Top ≤ d1) :
    Calls Try.prog 9 #[.int .u64 (N : Int), .int .i64 sz] w (RetT w) := by
  have HV := Lib.hid hv; clear hv
  have HZ := Lib.hid zz; clear zz
  obtain ⟨op1, op2, oq0, oq, ot, os1, os2⟩ := hf.ok
  have HF := Lib.hid hf; clear hf
  obtain ⟨z, hz3⟩ : ∃ z : Nat, sz = (z : Int) + 1 := ⟨sz.toNat - 1, by omega⟩
  have hz63 : z ≤ 63 := by omega
  have hzz : sz.toNat - 1 = z := by omega
  rw [hzz] at hbZ hN
  obtain ⟨Z, hZ⟩ : ∃ Z, Z = 2 ^ z := ⟨_, rfl⟩
  obtain ⟨H, hH⟩ : ∃ H, H = 2 ^ (p - 1) := ⟨_, rfl⟩
  obtain ⟨K, hK⟩ : ∃ K, K = t + q + 2 := ⟨_, rfl⟩
  have hZ1 : Z ≤ 9223372036854775808 := by rw [hZ]; exact Nat.pow_le_pow_right (n := 2) (j := 63) (by decide) hz63
  obtain ⟨SZ, hSZ⟩ : ∃ S, S = s.toNat * Z := ⟨_, rfl⟩
  have hsz : SZ ≤ Z := by rw [hSZ]; have := Nat.mul_le_mul_right Z (Bool.toNat_le s); omega
  have hbZ2 := hbZ
  have hN2 := hN
  rw [← hZ] at hbZ hN
  rw [← hSZ] at hN
  have hNlt : N < 18446744073709551616 := by omega
  have a1 : bits BinOp.and IntKind.u64 (N : Int) (Z : Int) = (SZ : Int) := by rw [u64_and_nat _ _ hNlt (by omega), hN2, hZ, and_high hbZ2, hSZ, hZ]
  have a2 : ((SZ : Int) != 0) = s := by
    rw [hSZ]
    have : 0 < Z := by rw [hZ]; exact Nat.pow_pos (by decide)
    cases s
    · simp
    · simp; omega
  have a3 : bits BinOp.andNot IntKind.u64 (N : Int) (Z : Int) = (b : Int) := by rw [u64_andNot_nat _ _ hNlt (by omega), hN2, hZ, andNot_high hbZ2 hz63]
  have hNZ : N ≠ Z := by
    have h0 : 0 < Z := by rw [hZ]; exact Nat.pow_pos (by decide)
    cases s
    · rw [hN, hSZ]; simp; omega
    · have : b ≠ 0 := fun h => by have := hs h; cases this
      rw [hN, hSZ]; simp; omega
  have a4 : ((N : Int) == (Z : Int)) = false := by simp only [beq_eq_false_iff_ne, ne_eq]; omega
  have a5 : ¬ (N : Int) = (Z : Int) := by omega
  obtain ⟨x, hx⟩ : ∃ x, x = b / H := ⟨_, rfl⟩
  have a6 : IntKind.i64.wrap ((p : Int) - 1) = ((p - 1 : Nat) : Int) := by rw [IntKind.wrap_i64]; omega
  have a7 : (2 : Int) ^ (p - 1) = (H : Int) := by rw [hH, Int.natCast_pow]; rfl
  have a8 : (b : Int) / (H : Int) = (x : Int) := by rw [hx]; exact (Int.natCast_ediv b H).symm
  have hxK : x ≠ K := by rw [hx, hK]; intro h; refine hb ?_; rw [← h, ← hH]; exact Nat.div_mul_le_self b H
  have a9 : ((x : Int) == (K : Int)) = false := by simp only [beq_eq_false_iff_ne, ne_eq]; omega
  clear hxK
  have HN32 : Hid (sz = 32 → N < 4294967296) := by
    show sz = 32 → N < 4294967296
    intro h
    obtain rfl : z = 31 := by omega
    rw [show (2 : Nat) ^ 31 = 2147483648 from rfl] at hZ
    omega
  have HHZ := Lib.hid (show Z = 2 ^ (sz.toNat - 1) by rw [hzz]; exact hZ)
  have HK := Lib.hid hK; clear hK
  clear hz3 hz63 hzz hZ hH hZ1 hSZ hsz hbZ2 hN2 hN hNlt hNZ hx hbZ hs
  have hble : b ≤ (t + q + 2) * 2 ^ (p - 1) := by omega
  obtain ⟨an_, han⟩ : ∃ a, FN p q b = a := ⟨_, rfl⟩
  obtain ⟨cn_, hcn⟩ : ∃ a, FD p q b = a := ⟨_, rfl⟩
  obtain ⟨g, hg⟩ : ∃ g, Nat.gcd an_ cn_ = g := ⟨_, rfl⟩
  have l1 := FN_len HF.out hble
  have l2 := FD_len (b := b) HF.out
  have hc0p := FD_pos p q b
  rw [han] at l1
  rw [hcn] at l2 hc0p
  have hgl : (decL g).length ≤ 340 := Nat.le_trans (decL_mono (by rw [← hg]; exact Nat.gcd_le_right an_ hc0p)) l2
  have hg0 : g ≠ 0 := by rw [← hg]; exact Nat.ne_of_gt (Nat.gcd_pos_of_pos_right _ hc0p)
  have hq1 : an_ / g = n1 := by rw [← hn1, ← hg, ← han, ← hcn]; rfl
  have hq2 : cn_ / g = d1 := by rw [← hd1, ← hg, ← han, ← hcn]; rfl
  obtain ⟨r1, hr1⟩ : ∃ r, an_ % g = r := ⟨_, rfl⟩
  obtain ⟨r2, hr2⟩ : ∃ r, cn_ % g = r := ⟨_, rfl⟩
  have HG := Lib.hid (And.intro hble (And.intro han (And.intro hcn (And.intro hg (And.intro l1 (And.intro l2 (And.intro hgl (And.intro hg0 (And.intro hq1 (And.intro hq2 (And.intro hr1 hr2))))))))))); clear hble han hcn hg l1 l2 hc0p hgl hg0 hq1 hq2 hr1 hr2 hb hn1 hd1
  have HO := Lib.hid (And.intro (decide_eq_false (show ¬ Top ≤ n1 by omega)) (decide_eq_true ho2)); clear ho ho2
  have hfd1 := fun W => field_q (dec n1) (dec r1) W
  have hfd2 := fun W => field_q (dec d1) (dec r2) W
  have HW := Lib.hid (bel_refl w)
  go_enter Try.func9, Try.ntmps9
  go_wp2_with fail
  refine (HV.out _).mono ?_
  rintro e w1 ⟨va, ve, rfl, hna, hne, hbl⟩
  replace HW := Lib.hid (bel_trans HW.out hbl); clear hbl
  have HNa := Lib.hid hna; clear hna
  obtain ⟨Aa, ca, rfl, hca, hra⟩ := HNa.out.row
  have Ra := Lib.hid hra; have HCa := Lib.hid hca; clear hra hca
  have HNe := Lib.hid hne; clear hne
  obtain ⟨Ae, ce, rfl, hce, hre⟩ := HNe.out.row
  have Re := Lib.hid hre; have HCe := Lib.hid hce; clear hre hce
  rw [show noQ.s = false from rfl, show noQ.n = 0 from rfl, show noQ.d = 0 from rfl, limbs0]
  go_upto_region 2 with fail
  obtain ⟨wm, hwm⟩ : ∃ wm, wm = w1.alloc (.cells #[.bool false, .slice Aa 0 ca, .slice Ae 0 ce] 25) := ⟨_, rfl⟩
  rw [← hwm]
  have hbl : Below w1.heap.size w1 wm := by rw [hwm]; exact bel_alloc (bel_refl _) _
  have VX : Blk wm (w1.heap.size) 25 #[.bool false, .slice Aa 0 ca, .slice Ae 0 ce] := by
    have hz := Blk.new (w1) 25 #[.bool false, .slice Aa 0 ca, .slice Ae 0 ce]
    rw [hwm]
    exact hz
  clear hwm
  replace Ra := Lib.hid (Ra.out.below hbl)
  replace HNa := Lib.hid (HNa.out.below hbl)
  replace Re := Lib.hid (Re.out.below hbl)
  replace HNe := Lib.hid (HNe.out.below hbl)
  replace HW := Lib.hid (bel_trans HW.out hbl); clear hbl
  replace VX := Lib.hid VX
  have VX0 : wm.cell? ⟨w1.heap.size, 0, none⟩ = some (.bool false) := VX.out.cell 0
  have VX1 : wm.cell? ⟨w1.heap.size, 1, none⟩ = some (.slice Aa 0 ca) := VX.out.cell 1
  have VX2 : wm.cell? ⟨w1.heap.size, 2, none⟩ = some (.slice Ae 0 ce) := VX.out.cell 2
  go_cut [39] (fun v wx => v = .bool false ∧ Below wm.heap.size wm wx)
  case first =>
    obtain rfl : sz = 32 := by simpa using HZ.out
    have g1 : (N : Int) / 4294967296 = 0 := by have := HN32.out rfl; omega
    go_wp2_with fail
    refine (high3_any HF.out _ (H := Z) HHZ.out).mono ?_
    rintro e w7 ⟨rfl, hbl⟩
    have H7 := Lib.hid hbl; clear hbl
    go_wp2_with fail
    go_meet
    exact ⟨rfl, H7.out⟩
  case rest =>
    obtain ⟨rfl, hbl⟩ := hcut
    replace Ra := Lib.hid (Ra.out.below hbl)
    replace HNa := Lib.hid (HNa.out.below hbl)
    replace Re := Lib.hid (Re.out.below hbl)
    replace HNe := Lib.hid (HNe.out.below hbl)
    replace VX := Lib.hid (VX.out.below hbl VX.out.lt)
    replace HW := Lib.hid (bel_trans HW.out hbl); clear hbl
    clear VX0 VX1 VX2
    have VX0 : wc.cell? ⟨w1.heap.size, 0, none⟩ = some (.bool false) := VX.out.cell 0
    have VX1 : wc.cell? ⟨w1.heap.size, 1, none⟩ = some (.slice Aa 0 ca) := VX.out.cell 1
    have VX2 : wc.cell? ⟨w1.heap.size, 2, none⟩ = some (.slice Ae 0 ce) := VX.out.cell 2
    go_wp2_with fail
    refine (high3_any HF.out _ HHZ.out).mono ?_
    rintro e w2 ⟨rfl, hbl⟩
    replace Ra := Lib.hid (Ra.out.below hbl)
    replace HNa := Lib.hid (HNa.out.below hbl)
    replace Re := Lib.hid (Re.out.below hbl)
    replace HNe := Lib.hid (HNe.out.below hbl)
    replace VX := Lib.hid (VX.out.below hbl VX.out.lt)
    replace HW := Lib.hid (bel_trans HW.out hbl); clear hbl
    clear VX0 VX1 VX2
    have VX0 : w2.cell? ⟨w1.heap.size, 0, none⟩ = some (.bool false) := VX.out.cell 0
    have VX1 : w2.cell? ⟨w1.heap.size, 1, none⟩ = some (.slice Aa 0 ca) := VX.out.cell 1
    have VX2 : w2.cell? ⟨w1.heap.size, 2, none⟩ = some (.slice Ae 0 ce) := VX.out.cell 2
    go_wp2_with fail
    refine (high3_any HF.out _ HHZ.out).mono ?_
    rintro e w3 ⟨rfl, hbl⟩
    replace Ra := Lib.hid (Ra.out.below hbl)
    replace HNa := Lib.hid (HNa.out.below hbl)
    replace Re := Lib.hid (Re.out.below hbl)
    replace HNe := Lib.hid (HNe.out.below hbl)
    replace VX := Lib.hid (VX.out.below hbl VX.out.lt)
    replace HW := Lib.hid (bel_trans HW.out hbl); clear hbl
    clear VX0 VX1 VX2
    have VX0 : w3.cell? ⟨w1.heap.size, 0, none⟩ = some (.bool false) := VX.out.cell 0
    have VX1 : w3.cell? ⟨w1.heap.size, 1, none⟩ = some (.slice Aa 0 ca) := VX.out.cell 1
    have VX2 : w3.cell? ⟨w1.heap.size, 2, none⟩ = some (.slice Ae 0 ce) := VX.out.cell 2
    go_upto_region 5 with fail
    refine wp_region_typed 8 (TOf [VIs (.int .u64 (b : Int)),
        VIs (.int .i64 sz),
        VIs (.int .i64 (p : Int)),
        VIs (.int .i64 ((p - 1 : Nat) : Int)),
        VIs (.int .u64 (x : Int)),
        VIs (.int .i64 sz),
        VIs (.int .u64 (K : Int)),
        VIs (.bool false)]) (by kernel_rfl) (by kernel_rfl) (by kernel_rfl) (LiftAll.at_ (.cons (VIs.lift _) (.cons (VIs.lift _) (.cons (VIs.lift _) (.cons (VIs.lift _) (.cons (VIs.lift _) (.cons (VIs.lift _) (.cons (VIs.lift _) (.cons (VIs.lift _) .nil))))))))) (steps_all (steps_cons ?_ (steps_cons ?_ (steps_cons ?_ (steps_cons ?_ (steps_cons ?_ (steps_cons ?_ (steps_cons ?_ (steps_cons ?_ steps_zero))))))))) ?fin
    · intro a0 w9 K9 hF hB hK hC
      have b8 := hF.base (k := 8) (v := .int .u64 (b : Int)) (by kernel_rfl) rfl
      clear hF hB hK
      go_simp
      exact hC _ _ (bel_refl _) fun _ _ => rfl
    · intro a0 w9 K9 hF hB hK hC
      have b1 := hF.base (k := 1) (v := .int .i64 sz) (by kernel_rfl) rfl
      clear hF hB hK
      go_simp
      exact hC _ _ (bel_refl _) fun _ _ => rfl
    · intro a0 w9 K9 hF hB hK hC
      obtain ⟨v60, e60, z60⟩ := dep hK 0 (g := .data) (j := 1) (k := 60) rfl rfl rfl
      have z60 : v60 = .int .i64 sz := z60
      subst z60
      have HB9 := Lib.hid hB
      clear hF hB hK
      go_simp
      refine (refMant_any HF.out _).mono ?_
      rintro e w7 ⟨rfl, hbl⟩
      exact hC _ _ hbl fun _ _ => rfl
    · intro a0 w9 K9 hF hB hK hC
      obtain ⟨v61, e61, z61⟩ := dep hK 0 (g := .data) (j := 2) (k := 61) rfl rfl rfl
      have z61 : v61 = .int .i64 (p : Int) := z61
      subst z61
      have HB9 := Lib.hid hB
      clear hF hB hK
      go_simp
      exact hC _ _ (bel_refl _) fun _ _ => rfl
    · intro a0 w9 K9 hF hB hK hC
      obtain ⟨v59, e59, z59⟩ := dep hK 0 (g := .data) (j := 0) (k := 59) rfl rfl rfl
      have z59 : v59 = .int .u64 (b : Int) := z59
      subst z59
      obtain ⟨v62, e62, z62⟩ := dep hK 1 (g := .data) (j := 3) (k := 62) rfl rfl rfl
      have z62 : v62 = .int .i64 ((p - 1 : Nat) : Int) := z62
      subst z62
      have HB9 := Lib.hid hB
      clear hF hB hK
      go_simp
      exact hC _ _ (bel_refl _) fun _ _ => rfl
    · intro a0 w9 K9 hF hB hK hC
      have b1 := hF.base (k := 1) (v := .int .i64 sz) (by kernel_rfl) rfl
      clear hF hB hK
      go_simp
      exact hC _ _ (bel_refl _) fun _ _ => rfl
    · intro a0 w9 K9 hF hB hK hC
      obtain ⟨v64, e64, z64⟩ := dep hK 0 (g := .data) (j := 5) (k := 64) rfl rfl rfl
      have z64 : v64 = .int .i64 sz := z64
      subst z64
      have HB9 := Lib.hid hB
      clear hF hB hK
      go_simp
      refine (refHigh_is3 HF.out _ HK.out).mono ?_
      rintro e w7 ⟨rfl, hbl⟩
      exact hC _ _ hbl fun _ _ => rfl
    · intro a0 w9 K9 hF hB hK hC
      obtain ⟨v63, e63, z63⟩ := dep hK 0 (g := .data) (j := 4) (k := 63) rfl rfl rfl
      have z63 : v63 = .int .u64 (x : Int) := z63
      subst z63
      obtain ⟨v65, e65, z65⟩ := dep hK 1 (g := .data) (j := 6) (k := 65) rfl rfl rfl
      have z65 : v65 = .int .u64 (K : Int) := z65
      subst z65
      have HB9 := Lib.hid hB
      clear hF hB hK
      go_simp
      exact hC _ _ (bel_refl _) fun _ _ => rfl
    case fin =>
      intro a0 w9 hF hB hK
      have b1 := hF.base (k := 1) (v := .int .i64 sz) (by kernel_rfl) rfl
      have b5 := hF.base (k := 5) (v := .pointer (some ⟨w1.heap.size, 0, none⟩)) (by kernel_rfl) rfl
      have b6 := hF.base (k := 6) (v := .int .i64 2) (by kernel_rfl) rfl
      have b7 := hF.base (k := 7) (v := .bool s) (by kernel_rfl) rfl
      have b8 := hF.base (k := 8) (v := .int .u64 (b : Int)) (by kernel_rfl) rfl
      have hsz := hF.size
      have hdf := hF.defers
      clear hF
      obtain ⟨v66, e66, z66⟩ := known hK 7 (k := 66) (by decide) rfl
      have z66 : v66 = .bool false := z66
      subst z66
      clear hK
      obtain ⟨⟨l0⟩, df⟩ := a0
      have hs0 : l0.length = 124 := hsz
      clear hsz
      replace hdf : df = _ := hdf
      subst hdf
      obtain ⟨u, rfl⟩ := lits_124 hs0
      clear hs0
      have q1 : u 1 = _ := Option.some.inj b1
      clear b1
      have q5 : u 5 = _ := Option.some.inj b5
      clear b5
      have q6 : u 6 = _ := Option.some.inj b6
      clear b6
      have q7 : u 7 = _ := Option.some.inj b7
      clear b7
      have q8 : u 8 = _ := Option.some.inj b8
      clear b8
      have q66 : u 66 = _ := Option.some.inj e66
      clear e66
      rw [q1, q5, q6, q7, q8, q66]
      clear q1 q5 q6 q7 q8 q66
      have hbl := hB; clear hB
      replace Ra := Lib.hid (Ra.out.below hbl)
      replace HNa := Lib.hid (HNa.out.below hbl)
      replace Re := Lib.hid (Re.out.below hbl)
      replace HNe := Lib.hid (HNe.out.below hbl)
      replace VX := Lib.hid (VX.out.below hbl VX.out.lt)
      replace HW := Lib.hid (bel_trans HW.out hbl); clear hbl
      clear VX0 VX1 VX2
      have VX0 : w9.cell? ⟨w1.heap.size, 0, none⟩ = some (.bool false) := VX.out.cell 0
      have VX1 : w9.cell? ⟨w1.heap.size, 1, none⟩ = some (.slice Aa 0 ca) := VX.out.cell 1
      have VX2 : w9.cell? ⟨w1.heap.size, 2, none⟩ = some (.slice Ae 0 ce) := VX.out.cell 2
      refine wpList_nil ?_
      go_wp2_with fail
      refine (refFrac_is3 HF.out b _ HG.out.1 HG.out.2.1 HG.out.2.2.1).mono ?_
      rintro e w4 ⟨rfl, hbl⟩
      replace Ra := Lib.hid (Ra.out.below hbl)
      replace HNa := Lib.hid (HNa.out.below hbl)
      replace Re := Lib.hid (Re.out.below hbl)
      replace HNe := Lib.hid (HNe.out.below hbl)
      replace VX := Lib.hid (VX.out.below hbl VX.out.lt)
      replace HW := Lib.hid (bel_trans HW.out hbl); clear hbl
      clear VX0 VX1 VX2
      have VX0 : w4.cell? ⟨w1.heap.size, 0, none⟩ = some (.bool false) := VX.out.cell 0
      have VX1 : w4.cell? ⟨w1.heap.size, 1, none⟩ = some (.slice Aa 0 ca) := VX.out.cell 1
      have VX2 : w4.cell? ⟨w1.heap.size, 2, none⟩ = some (.slice Ae 0 ce) := VX.out.cell 2
      go_upto_region 8 with fail
      obtain ⟨wf, hwf⟩ : ∃ wf, wf = w4.alloc (.cells #[.string (dec an_), .string (dec cn_)] 38) := ⟨_, rfl⟩
      rw [← hwf]
      have hbl : Below w4.heap.size w4 wf := by rw [hwf]; exact bel_alloc (bel_refl _) _
      have VF : Blk wf (w4.heap.size) 38 #[.string (dec an_), .string (dec cn_)] := by
        have hz := Blk.new (w4) 38 #[.string (dec an_), .string (dec cn_)]
        rw [hwf]
        exact hz
      clear hwf
      replace Ra := Lib.hid (Ra.out.below hbl)
      replace HNa := Lib.hid (HNa.out.below hbl)
      replace Re := Lib.hid (Re.out.below hbl)
      replace HNe := Lib.hid (HNe.out.below hbl)
      replace VX := Lib.hid (VX.out.below hbl VX.out.lt)
      replace HW := Lib.hid (bel_trans HW.out hbl); clear hbl
      replace VF := Lib.hid VF
      clear VX0 VX1 VX2
      have VX0 : wf.cell? ⟨w1.heap.size, 0, none⟩ = some (.bool false) := VX.out.cell 0
      have VX1 : wf.cell? ⟨w1.heap.size, 1, none⟩ = some (.slice Aa 0 ca) := VX.out.cell 1
      have VX2 : wf.cell? ⟨w1.heap.size, 2, none⟩ = some (.slice Ae 0 ce) := VX.out.cell 2
      have VF0 : wf.cell? ⟨w4.heap.size, 0, none⟩ = some (.string (dec an_)) := VF.out.cell 0
      have VF1 : wf.cell? ⟨w4.heap.size, 1, none⟩ = some (.string (dec cn_)) := VF.out.cell 1
      go_wp2_with fail
      refine (refCommon_is an_ cn_ _ (by have := HG.out.2.2.2.2.1; omega) (by have := HG.out.2.2.2.2.2.1; omega) HG.out.2.2.2.1).mono ?_
      rintro e w5 ⟨rfl, hbl⟩
      replace Ra := Lib.hid (Ra.out.below hbl)
      replace HNa := Lib.hid (HNa.out.below hbl)
      replace Re := Lib.hid (Re.out.below hbl)
      replace HNe := Lib.hid (HNe.out.below hbl)
      replace VX := Lib.hid (VX.out.below hbl VX.out.lt)
      replace VF := Lib.hid (VF.out.below hbl VF.out.lt)
      replace HW := Lib.hid (bel_trans HW.out hbl); clear hbl
      clear VX0 VX1 VX2 VF0 VF1
      have VX0 : w5.cell? ⟨w1.heap.size, 0, none⟩ = some (.bool false) := VX.out.cell 0
      have VX1 : w5.cell? ⟨w1.heap.size, 1, none⟩ = some (.slice Aa 0 ca) := VX.out.cell 1
      have VX2 : w5.cell? ⟨w1.heap.size, 2, none⟩ = some (.slice Ae 0 ce) := VX.out.cell 2
      have VF0 : w5.cell? ⟨w4.heap.size, 0, none⟩ = some (.string (dec an_)) := VF.out.cell 0
      have VF1 : w5.cell? ⟨w4.heap.size, 1, none⟩ = some (.string (dec cn_)) := VF.out.cell 1
      go_upto_region 9 with fail
      refine wp_region_typed 12 (TOf [VIs (.pointer (some ⟨w4.heap.size, 0, none⟩)),
          VIs (.string (dec an_)),
          VIs (.string (dec g)),
          VIs (.agg #[.string (dec n1), .string (dec r1)]),
          VIs (.string (dec n1)),
          VIs (.pointer (some ⟨w4.heap.size, 1, none⟩)),
          VIs (.string (dec cn_)),
          VIs (.string (dec g)),
          VIs (.agg #[.string (dec d1), .string (dec r2)]),
          VIs (.string (dec d1)),
          VIs (.string (dec n1)),
          VIs (.string (dec d1))]) (by kernel_rfl) (by kernel_rfl) (by kernel_rfl) (LiftAll.at_ (.cons (VIs.lift _) (.cons (VIs.lift _) (.cons (VIs.lift _) (.cons (VIs.lift _) (.cons (VIs.lift _) (.cons (VIs.lift _) (.cons (VIs.lift _) (.cons (VIs.lift _) (.cons (VIs.lift _) (.cons (VIs.lift _) (.cons (VIs.lift _) (.cons (VIs.lift _) .nil))))))))))))) (steps_all (steps_cons ?_ (steps_cons ?_ (steps_cons ?_ (steps_cons ?_ (steps_cons ?_ (steps_cons ?_ (steps_cons ?_ (steps_cons ?_ (steps_cons ?_ (steps_cons ?_ (steps_cons ?_ (steps_cons ?_ steps_zero))))))))))))) ?fin
      · intro a0 w9 K9 hF hB hK hC
        have b9 := hF.base (k := 9) (v := .pointer (some ⟨w4.heap.size, 0, none⟩)) (by kernel_rfl) rfl
        clear hF hB hK
        go_simp
        exact hC _ _ (bel_refl _) fun _ _ => rfl
      · intro a0 w9 K9 hF hB hK hC
        obtain ⟨v85, e85, z85⟩ := dep hK 0 (g := .data) (j := 0) (k := 85) rfl rfl rfl
        have z85 : v85 = .pointer (some ⟨w4.heap.size, 0, none⟩) := z85
        subst z85
        have x9 : w9.cell? ⟨w4.heap.size, 0, none⟩ = some (.string (dec an_)) := (VF.out.below hB VF.out.lt).cell 0
        clear hF hB hK
        go_simp
        exact hC _ _ (bel_refl _) fun _ _ => rfl
      · intro a0 w9 K9 hF hB hK hC
        have b10 := hF.base (k := 10) (v := .string (dec g)) (by kernel_rfl) rfl
        clear hF hB hK
        go_simp
        exact hC _ _ (bel_refl _) fun _ _ => rfl
      · intro a0 w9 K9 hF hB hK hC
        obtain ⟨v86, e86, z86⟩ := dep hK 0 (g := .data) (j := 1) (k := 86) rfl rfl rfl
        have z86 : v86 = .string (dec an_) := z86
        subst z86
        obtain ⟨v87, e87, z87⟩ := dep hK 1 (g := .data) (j := 2) (k := 87) rfl rfl rfl
        have z87 : v87 = .string (dec g) := z87
        subst z87
        have HB9 := Lib.hid hB
        clear hF hB hK
        go_simp
        refine (refDiv_is an_ g _ (by have := HG.out.2.2.2.2.1; omega) (by have := HG.out.2.2.2.2.2.2.1; omega) HG.out.2.2.2.2.2.2.2.1 HG.out.2.2.2.2.2.2.2.2.1 HG.out.2.2.2.2.2.2.2.2.2.2.1).mono ?_
        rintro e w7 ⟨rfl, hbl⟩
        exact hC _ _ hbl fun _ _ => rfl
      · intro a0 w9 K9 hF hB hK hC
        obtain ⟨v88, e88, z88⟩ := dep hK 0 (g := .data) (j := 3) (k := 88) rfl rfl rfl
        have z88 : v88 = .agg #[.string (dec n1), .string (dec r1)] := z88
        subst z88
        have HB9 := Lib.hid hB
        clear hF hB hK
        go_simp
        exact hC _ _ (bel_refl _) fun _ _ => rfl
      · intro a0 w9 K9 hF hB hK hC
        have b9 := hF.base (k := 9) (v := .pointer (some ⟨w4.heap.size, 0, none⟩)) (by kernel_rfl) rfl
        clear hF hB hK
        go_simp
        exact hC _ _ (bel_refl _) fun _ _ => rfl
      · intro a0 w9 K9 hF hB hK hC
        obtain ⟨v90, e90, z90⟩ := dep hK 0 (g := .data) (j := 5) (k := 90) rfl rfl rfl
        have z90 : v90 = .pointer (some ⟨w4.heap.size, 1, none⟩) := z90
        subst z90
        have x9 : w9.cell? ⟨w4.heap.size, 1, none⟩ = some (.string (dec cn_)) := (VF.out.below hB VF.out.lt).cell 1
        clear hF hB hK
        go_simp
        exact hC _ _ (bel_refl _) fun _ _ => rfl
      · intro a0 w9 K9 hF hB hK hC
        have b10 := hF.base (k := 10) (v := .string (dec g)) (by kernel_rfl) rfl
        clear hF hB hK
        go_simp
        exact hC _ _ (bel_refl _) fun _ _ => rfl
      · intro a0 w9 K9 hF hB hK hC
        obtain ⟨v91, e91, z91⟩ := dep hK 0 (g := .data) (j := 6) (k := 91) rfl rfl rfl
        have z91 : v91 = .string (dec cn_) := z91
        subst z91
        obtain ⟨v92, e92, z92⟩ := dep hK 1 (g := .data) (j := 7) (k := 92) rfl rfl rfl
        have z92 : v92 = .string (dec g) := z92
        subst z92
        have HB9 := Lib.hid hB
        clear hF hB hK
        go_simp
        refine (refDiv_is cn_ g _ (by have := HG.out.2.2.2.2.2.1; omega) (by have := HG.out.2.2.2.2.2.2.1; omega) HG.out.2.2.2.2.2.2.2.1 HG.out.2.2.2.2.2.2.2.2.2.1 HG.out.2.2.2.2.2.2.2.2.2.2.2).mono ?_
        rintro e w7 ⟨rfl, hbl⟩
        exact hC _ _ hbl fun _ _ => rfl
      · intro a0 w9 K9 hF hB hK hC
        obtain ⟨v93, e93, z93⟩ := dep hK 0 (g := .data) (j := 8) (k := 93) rfl rfl rfl
        have z93 : v93 = .agg #[.string (dec d1), .string (dec r2)] := z93
        subst z93
        have HB9 := Lib.hid hB
        clear hF hB hK
        go_simp
        exact hC _ _ (bel_refl _) fun _ _ => rfl
      · intro a0 w9 K9 hF hB hK hC
        obtain ⟨v89, e89, z89⟩ := dep hK 0 (g := .data) (j := 4) (k := 89) rfl rfl rfl
        have z89 : v89 = .string (dec n1) := z89
        subst z89
        clear hF hB hK
        go_simp
        exact hC _ _ (bel_refl _) fun _ _ => rfl
      · intro a0 w9 K9 hF hB hK hC
        obtain ⟨v94, e94, z94⟩ := dep hK 0 (g := .data) (j := 9) (k := 94) rfl rfl rfl
        have z94 : v94 = .string (dec d1) := z94
        subst z94
        clear hF hB hK
        go_simp
        exact hC _ _ (bel_refl _) fun _ _ => rfl
      case fin =>
        intro a0 w9 hF hB hK
        have b1 := hF.base (k := 1) (v := .int .i64 sz) (by kernel_rfl) rfl
        have b5 := hF.base (k := 5) (v := .pointer (some ⟨w1.heap.size, 0, none⟩)) (by kernel_rfl) rfl
        have b6 := hF.base (k := 6) (v := .int .i64 2) (by kernel_rfl) rfl
        have b7 := hF.base (k := 7) (v := .bool s) (by kernel_rfl) rfl
        have b8 := hF.base (k := 8) (v := .int .u64 (b : Int)) (by kernel_rfl) rfl
        have b9 := hF.base (k := 9) (v := .pointer (some ⟨w4.heap.size, 0, none⟩)) (by kernel_rfl) rfl
        have b10 := hF.base (k := 10) (v := .string (dec g)) (by kernel_rfl) rfl
        have hsz := hF.size
        have hdf := hF.defers
        clear hF
        obtain ⟨v11, e11, z11⟩ := known hK 10 (k := 11) (by decide) rfl
        have z11 : v11 = .string (dec n1) := z11
        subst z11
        obtain ⟨v12, e12, z12⟩ := known hK 11 (k := 12) (by decide) rfl
        have z12 : v12 = .string (dec d1) := z12
        subst z12
        clear hK
        obtain ⟨⟨l0⟩, df⟩ := a0
        have hs0 : l0.length = 124 := hsz
        clear hsz
        replace hdf : df = _ := hdf
        subst hdf
        obtain ⟨u, rfl⟩ := lits_124 hs0
        clear hs0
        have q1 : u 1 = _ := Option.some.inj b1
        clear b1
        have q5 : u 5 = _ := Option.some.inj b5
        clear b5
        have q6 : u 6 = _ := Option.some.inj b6
        clear b6
        have q7 : u 7 = _ := Option.some.inj b7
        clear b7
        have q8 : u 8 = _ := Option.some.inj b8
        clear b8
        have q9 : u 9 = _ := Option.some.inj b9
        clear b9
        have q10 : u 10 = _ := Option.some.inj b10
        clear b10
        have q11 : u 11 = _ := Option.some.inj e11
        clear e11
        have q12 : u 12 = _ := Option.some.inj e12
        clear e12
        rw [q1, q5, q6, q7, q8, q9, q10, q11, q12]
        clear q1 q5 q6 q7 q8 q9 q10 q11 q12
        have hbl := hB; clear hB
        replace Ra := Lib.hid (Ra.out.below hbl)
        replace HNa := Lib.hid (HNa.out.below hbl)
        replace Re := Lib.hid (Re.out.below hbl)
        replace HNe := Lib.hid (HNe.out.below hbl)
        replace VX := Lib.hid (VX.out.below hbl VX.out.lt)
        replace VF := Lib.hid (VF.out.below hbl VF.out.lt)
        replace HW := Lib.hid (bel_trans HW.out hbl); clear hbl
        clear VX0 VX1 VX2 VF0 VF1
        have VX0 : w9.cell? ⟨w1.heap.size, 0, none⟩ = some (.bool false) := VX.out.cell 0
        have VX1 : w9.cell? ⟨w1.heap.size, 1, none⟩ = some (.slice Aa 0 ca) := VX.out.cell 1
        have VX2 : w9.cell? ⟨w1.heap.size, 2, none⟩ = some (.slice Ae 0 ce) := VX.out.cell 2
        have VF0 : w9.cell? ⟨w4.heap.size, 0, none⟩ = some (.string (dec an_)) := VF.out.cell 0
        have VF1 : w9.cell? ⟨w4.heap.size, 1, none⟩ = some (.string (dec cn_)) := VF.out.cell 1
        refine wpList_nil ?_
        clear hfd1 hfd2
        go_wp2_with fail
        refine (refOver_is n1 _ _ HO.out.1).mono ?_
        rintro e w6 ⟨rfl, hbl⟩
        replace Ra := Lib.hid (Ra.out.below hbl)
        replace HNa := Lib.hid (HNa.out.below hbl)
        replace Re := Lib.hid (Re.out.below hbl)
        replace HNe := Lib.hid (HNe.out.below hbl)
        replace VX := Lib.hid (VX.out.below hbl VX.out.lt)
        replace VF := Lib.hid (VF.out.below hbl VF.out.lt)
        replace HW := Lib.hid (bel_trans HW.out hbl); clear hbl
        clear VX0 VX1 VX2 VF0 VF1
        have VX0 : w6.cell? ⟨w1.heap.size, 0, none⟩ = some (.bool false) := VX.out.cell 0
        have VX1 : w6.cell? ⟨w1.heap.size, 1, none⟩ = some (.slice Aa 0 ca) := VX.out.cell 1
        have VX2 : w6.cell? ⟨w1.heap.size, 2, none⟩ = some (.slice Ae 0 ce) := VX.out.cell 2
        have VF0 : w6.cell? ⟨w4.heap.size, 0, none⟩ = some (.string (dec an_)) := VF.out.cell 0
        have VF1 : w6.cell? ⟨w4.heap.size, 1, none⟩ = some (.string (dec cn_)) := VF.out.cell 1
        go_wp2_with fail
        refine (refOver_is d1 _ _ HO.out.2).mono ?_
        rintro e w7 ⟨rfl, hbl⟩
        replace Ra := Lib.hid (Ra.out.below hbl)
        replace HNa := Lib.hid (HNa.out.below hbl)
        replace Re := Lib.hid (Re.out.below hbl)
        replace HNe := Lib.hid (HNe.out.below hbl)
        replace VX := Lib.hid (VX.out.below hbl VX.out.lt)
        replace VF := Lib.hid (VF.out.below hbl VF.out.lt)
        replace HW := Lib.hid (bel_trans HW.out hbl); clear hbl
        clear VX0 VX1 VX2 VF0 VF1
        have VX0 : w7.cell? ⟨w1.heap.size, 0, none⟩ = some (.bool false) := VX.out.cell 0
        have VX1 : w7.cell? ⟨w1.heap.size, 1, none⟩ = some (.slice Aa 0 ca) := VX.out.cell 1
        have VX2 : w7.cell? ⟨w1.heap.size, 2, none⟩ = some (.slice Ae 0 ce) := VX.out.cell 2
        have VF0 : w7.cell? ⟨w4.heap.size, 0, none⟩ = some (.string (dec an_)) := VF.out.cell 0
        have VF1 : w7.cell? ⟨w4.heap.size, 1, none⟩ = some (.string (dec cn_)) := VF.out.cell 1
        go_wp2_with fail
        refine (alive3 _).mono ?_
        rintro e w8 ⟨rfl, hbl⟩
        replace Ra := Lib.hid (Ra.out.below hbl)
        replace HNa := Lib.hid (HNa.out.below hbl)
        replace Re := Lib.hid (Re.out.below hbl)
        replace HNe := Lib.hid (HNe.out.below hbl)
        replace VX := Lib.hid (VX.out.below hbl VX.out.lt)
        replace VF := Lib.hid (VF.out.below hbl VF.out.lt)
        replace HW := Lib.hid (bel_trans HW.out hbl); clear hbl
        clear VX0 VX1 VX2 VF0 VF1
        have VX0 : w8.cell? ⟨w1.heap.size, 0, none⟩ = some (.bool false) := VX.out.cell 0
        have VX1 : w8.cell? ⟨w1.heap.size, 1, none⟩ = some (.slice Aa 0 ca) := VX.out.cell 1
        have VX2 : w8.cell? ⟨w1.heap.size, 2, none⟩ = some (.slice Ae 0 ce) := VX.out.cell 2
        have VF0 : w8.cell? ⟨w4.heap.size, 0, none⟩ = some (.string (dec an_)) := VF.out.cell 0
        have VF1 : w8.cell? ⟨w4.heap.size, 1, none⟩ = some (.string (dec cn_)) := VF.out.cell 1
        go_wp2_with fail
        refine (same_none Aa Ae ca ce _).mono ?_
        rintro e w9 ⟨rfl, hbl⟩
        replace Ra := Lib.hid (Ra.out.below hbl)
        replace HNa := Lib.hid (HNa.out.below hbl)
        replace Re := Lib.hid (Re.out.below hbl)
        replace HNe := Lib.hid (HNe.out.below hbl)
        replace VX := Lib.hid (VX.out.below hbl VX.out.lt)
        replace VF := Lib.hid (VF.out.below hbl VF.out.lt)
        replace HW := Lib.hid (bel_trans HW.out hbl); clear hbl
        clear VX0 VX1 VX2 VF0 VF1
        have VX0 : w9.cell? ⟨w1.heap.size, 0, none⟩ = some (.bool false) := VX.out.cell 0
        have VX1 : w9.cell? ⟨w1.heap.size, 1, none⟩ = some (.slice Aa 0 ca) := VX.out.cell 1
        have VX2 : w9.cell? ⟨w1.heap.size, 2, none⟩ = some (.slice Ae 0 ce) := VX.out.cell 2
        have VF0 : w9.cell? ⟨w4.heap.size, 0, none⟩ = some (.string (dec an_)) := VF.out.cell 0
        have VF1 : w9.cell? ⟨w4.heap.size, 1, none⟩ = some (.string (dec cn_)) := VF.out.cell 1
        go_wp2
        go_ret
        exact ⟨rfl, HW.out⟩

set_option maxRecDepth 100000 in
set_option maxHeartbeats 1000000 in
theorem values_fit_f {p q t : Nat} {b : Nat} {s : Bool} {n1 d1 : Nat} (N : Nat) (sz : Int) (w : World) (hv : ∀ w1, Calls Try.prog 47 #[.int .u64 (N : Int), .int .i64 sz] w1 (RetQE ⟨s, n1, d1⟩ 0 w1)) (hf : Fm sz p q t) (zz : (sz == 32) = false) (hbZ : b < 2 ^ (sz.toNat - 1)) (hs : b = 0 → s = false) (hN : N = b + s.toNat * 2 ^ (sz.toNat - 1)) (hb : ¬ (t + q + 2) * 2 ^ (p - 1) ≤ b) (hn1 : LN p q b = n1) (hd1 : LD p q b = d1) (ho : n1 < Top) (ho2 : d1 < Top) :
    Calls Try.prog 9 #[.int .u64 (N : Int), .int .i64 sz] w (RetT w) := by
  have HV := Lib.hid hv; clear hv
  have HZ := Lib.hid zz; clear zz
  obtain ⟨op1, op2, oq0, oq, ot, os1, os2⟩ := hf.ok
  have HF := Lib.hid hf; clear hf
  obtain ⟨z, hz3⟩ : ∃ z : Nat, sz = (z : Int) + 1 := ⟨sz.toNat - 1, by omega⟩
  have hz63 : z ≤ 63 := by omega
  have hzz : sz.toNat - 1 = z := by omega
  rw [hzz] at hbZ hN
  obtain ⟨Z, hZ⟩ : ∃ Z, Z = 2 ^ z := ⟨_, rfl⟩
  obtain ⟨H, hH⟩ : ∃ H, H = 2 ^ (p - 1) := ⟨_, rfl⟩
  obtain ⟨K, hK⟩ : ∃ K, K = t + q + 2 := ⟨_, rfl⟩
  have hZ1 : Z ≤ 9223372036854775808 := by rw [hZ]; exact Nat.pow_le_pow_right (n := 2) (j := 63) (by decide) hz63
  obtain ⟨SZ, hSZ⟩ : ∃ S, S = s.toNat * Z := ⟨_, rfl⟩
  have hsz : SZ ≤ Z := by rw [hSZ]; have := Nat.mul_le_mul_right Z (Bool.toNat_le s); omega
  have hbZ2 := hbZ
  have hN2 := hN
  rw [← hZ] at hbZ hN
  rw [← hSZ] at hN
  have hNlt : N < 18446744073709551616 := by omega
  have HS := Lib.hid hs
  have a1 : bits BinOp.and IntKind.u64 (N : Int) (Z : Int) = (SZ : Int) := by rw [u64_and_nat _ _ hNlt (by omega), hN2, hZ, and_high hbZ2, hSZ, hZ]
  have a2 : ((SZ : Int) != 0) = s := by
    rw [hSZ]
    have : 0 < Z := by rw [hZ]; exact Nat.pow_pos (by decide)
    cases s
    · simp
    · simp; omega
  have a3 : bits BinOp.andNot IntKind.u64 (N : Int) (Z : Int) = (b : Int) := by rw [u64_andNot_nat _ _ hNlt (by omega), hN2, hZ, andNot_high hbZ2 hz63]
  have hNZ : N ≠ Z := by
    have h0 : 0 < Z := by rw [hZ]; exact Nat.pow_pos (by decide)
    cases s
    · rw [hN, hSZ]; simp; omega
    · have : b ≠ 0 := fun h => by have := hs h; cases this
      rw [hN, hSZ]; simp; omega
  have a4 : ((N : Int) == (Z : Int)) = false := by simp only [beq_eq_false_iff_ne, ne_eq]; omega
  have a5 : ¬ (N : Int) = (Z : Int) := by omega
  obtain ⟨x, hx⟩ : ∃ x, x = b / H := ⟨_, rfl⟩
  have a6 : IntKind.i64.wrap ((p : Int) - 1) = ((p - 1 : Nat) : Int) := by rw [IntKind.wrap_i64]; omega
  have a7 : (2 : Int) ^ (p - 1) = (H : Int) := by rw [hH, Int.natCast_pow]; rfl
  have a8 : (b : Int) / (H : Int) = (x : Int) := by rw [hx]; exact (Int.natCast_ediv b H).symm
  have hxK : x ≠ K := by rw [hx, hK]; intro h; refine hb ?_; rw [← h, ← hH]; exact Nat.div_mul_le_self b H
  have a9 : ((x : Int) == (K : Int)) = false := by simp only [beq_eq_false_iff_ne, ne_eq]; omega
  clear hxK
  have HHZ := Lib.hid (show Z = 2 ^ (sz.toNat - 1) by rw [hzz]; exact hZ)
  have HK := Lib.hid hK; clear hK
  clear hz3 hz63 hzz hZ hH hZ1 hSZ hsz hbZ2 hN2 hN hNlt hNZ hx hbZ hs
  have hble : b ≤ (t + q + 2) * 2 ^ (p - 1) := by omega
  obtain ⟨an_, han⟩ : ∃ a, FN p q b = a := ⟨_, rfl⟩
  obtain ⟨cn_, hcn⟩ : ∃ a, FD p q b = a := ⟨_, rfl⟩
  obtain ⟨g, hg⟩ : ∃ g, Nat.gcd an_ cn_ = g := ⟨_, rfl⟩
  have l1 := FN_len HF.out hble
  have l2 := FD_len (b := b) HF.out
  have hc0p := FD_pos p q b
  rw [han] at l1
  rw [hcn] at l2 hc0p
  have hgl : (decL g).length ≤ 340 := Nat.le_trans (decL_mono (by rw [← hg]; exact Nat.gcd_le_right an_ hc0p)) l2
  have hg0 : g ≠ 0 := by rw [← hg]; exact Nat.ne_of_gt (Nat.gcd_pos_of_pos_right _ hc0p)
  have hq1 : an_ / g = n1 := by rw [← hn1, ← hg, ← han, ← hcn]; rfl
  have hq2 : cn_ / g = d1 := by rw [← hd1, ← hg, ← han, ← hcn]; rfl
  obtain ⟨r1, hr1⟩ : ∃ r, an_ % g = r := ⟨_, rfl⟩
  obtain ⟨r2, hr2⟩ : ∃ r, cn_ % g = r := ⟨_, rfl⟩
  have hQR : QR ⟨s, n1, d1⟩ := by rw [← hn1, ← hd1]; exact valQ_right HS.out
  have HG := Lib.hid (And.intro hble (And.intro han (And.intro hcn (And.intro hg (And.intro l1 (And.intro l2 (And.intro hgl (And.intro hg0 (And.intro hq1 (And.intro hq2 (And.intro hr1 hr2))))))))))); clear hble han hcn hg l1 l2 hc0p hgl hg0 hq1 hq2 hr1 hr2 hb hn1 hd1
  have HT := Lib.hid (And.intro ho (And.intro ho2 hQR)); clear hQR
  have HO := Lib.hid (And.intro (decide_eq_false (show ¬ Top ≤ n1 by omega)) (decide_eq_false (show ¬ Top ≤ d1 by omega))); clear ho ho2
  have hfd1 := fun W => field_q (dec n1) (dec r1) W
  have hfd2 := fun W => field_q (dec d1) (dec r2) W
  have HW := Lib.hid (bel_refl w)
  go_enter Try.func9, Try.ntmps9
  go_wp2_with fail
  refine (HV.out _).mono ?_
  rintro e w1 ⟨va, ve, rfl, hna, hne, hbl⟩
  replace HW := Lib.hid (bel_trans HW.out hbl); clear hbl
  have HNa := Lib.hid hna; clear hna
  obtain ⟨Aa, ca, rfl, hca, hra⟩ := HNa.out.row
  have Ra := Lib.hid hra; have HCa := Lib.hid hca; clear hra hca
  have HNe := Lib.hid hne; clear hne
  obtain ⟨Ae, ce, rfl, hce, hre⟩ := HNe.out.row
  have Re := Lib.hid hre; have HCe := Lib.hid hce; clear hre hce
  go_upto_region 2 with fail
  obtain ⟨wm, hwm⟩ : ∃ wm, wm = w1.alloc (.cells #[.bool s, .slice Aa (limbs n1).length ca, .slice Ae (limbs d1).length ce] 25) := ⟨_, rfl⟩
  rw [← hwm]
  have hbl : Below w1.heap.size w1 wm := by rw [hwm]; exact bel_alloc (bel_refl _) _
  have VX : Blk wm (w1.heap.size) 25 #[.bool s, .slice Aa (limbs n1).length ca, .slice Ae (limbs d1).length ce] := by
    have hz := Blk.new (w1) 25 #[.bool s, .slice Aa (limbs n1).length ca, .slice Ae (limbs d1).length ce]
    rw [hwm]
    exact hz
  clear hwm
  replace Ra := Lib.hid (Ra.out.below hbl)
  replace HNa := Lib.hid (HNa.out.below hbl)
  replace Re := Lib.hid (Re.out.below hbl)
  replace HNe := Lib.hid (HNe.out.below hbl)
  replace HW := Lib.hid (bel_trans HW.out hbl); clear hbl
  replace VX := Lib.hid VX
  have VX0 : wm.cell? ⟨w1.heap.size, 0, none⟩ = some (.bool s) := VX.out.cell 0
  have VX1 : wm.cell? ⟨w1.heap.size, 1, none⟩ = some (.slice Aa (limbs n1).length ca) := VX.out.cell 1
  have VX2 : wm.cell? ⟨w1.heap.size, 2, none⟩ = some (.slice Ae (limbs d1).length ce) := VX.out.cell 2
  go_cut [39] (fun v wx => v = .bool false ∧ Below wm.heap.size wm wx)
  case first =>
    obtain rfl : sz = 64 := by rcases HF.out with h | h; have h2 := HZ.out; rw [h.1] at h2; cases h2; exact h.1
    go_wp2_with fail
    refine (high3_any HF.out _ (H := Z) HHZ.out).mono ?_
    rintro e w7 ⟨rfl, hbl⟩
    have H7 := Lib.hid hbl; clear hbl
    go_wp2_with fail
    go_meet
    exact ⟨rfl, H7.out⟩
  case rest =>
    obtain ⟨rfl, hbl⟩ := hcut
    replace Ra := Lib.hid (Ra.out.below hbl)
    replace HNa := Lib.hid (HNa.out.below hbl)
    replace Re := Lib.hid (Re.out.below hbl)
    replace HNe := Lib.hid (HNe.out.below hbl)
    replace VX := Lib.hid (VX.out.below hbl VX.out.lt)
    replace HW := Lib.hid (bel_trans HW.out hbl); clear hbl
    clear VX0 VX1 VX2
    have VX0 : wc.cell? ⟨w1.heap.size, 0, none⟩ = some (.bool s) := VX.out.cell 0
    have VX1 : wc.cell? ⟨w1.heap.size, 1, none⟩ = some (.slice Aa (limbs n1).length ca) := VX.out.cell 1
    have VX2 : wc.cell? ⟨w1.heap.size, 2, none⟩ = some (.slice Ae (limbs d1).length ce) := VX.out.cell 2
    go_wp2_with fail
    refine (high3_any HF.out _ HHZ.out).mono ?_
    rintro e w2 ⟨rfl, hbl⟩
    replace Ra := Lib.hid (Ra.out.below hbl)
    replace HNa := Lib.hid (HNa.out.below hbl)
    replace Re := Lib.hid (Re.out.below hbl)
    replace HNe := Lib.hid (HNe.out.below hbl)
    replace VX := Lib.hid (VX.out.below hbl VX.out.lt)
    replace HW := Lib.hid (bel_trans HW.out hbl); clear hbl
    clear VX0 VX1 VX2
    have VX0 : w2.cell? ⟨w1.heap.size, 0, none⟩ = some (.bool s) := VX.out.cell 0
    have VX1 : w2.cell? ⟨w1.heap.size, 1, none⟩ = some (.slice Aa (limbs n1).length ca) := VX.out.cell 1
    have VX2 : w2.cell? ⟨w1.heap.size, 2, none⟩ = some (.slice Ae (limbs d1).length ce) := VX.out.cell 2
    go_wp2_with fail
    refine (high3_any HF.out _ HHZ.out).mono ?_
    rintro e w3 ⟨rfl, hbl⟩
    replace Ra := Lib.hid (Ra.out.below hbl)
    replace HNa := Lib.hid (HNa.out.below hbl)
    replace Re := Lib.hid (Re.out.below hbl)
    replace HNe := Lib.hid (HNe.out.below hbl)
    replace VX := Lib.hid (VX.out.below hbl VX.out.lt)
    replace HW := Lib.hid (bel_trans HW.out hbl); clear hbl
    clear VX0 VX1 VX2
    have VX0 : w3.cell? ⟨w1.heap.size, 0, none⟩ = some (.bool s) := VX.out.cell 0
    have VX1 : w3.cell? ⟨w1.heap.size, 1, none⟩ = some (.slice Aa (limbs n1).length ca) := VX.out.cell 1
    have VX2 : w3.cell? ⟨w1.heap.size, 2, none⟩ = some (.slice Ae (limbs d1).length ce) := VX.out.cell 2
    go_upto_region 5 with fail
    refine wp_region_typed 8 (TOf [VIs (.int .u64 (b : Int)),
        VIs (.int .i64 sz),
        VIs (.int .i64 (p : Int)),
        VIs (.int .i64 ((p - 1 : Nat) : Int)),
        VIs (.int .u64 (x : Int)),
        VIs (.int .i64 sz),
        VIs (.int .u64 (K : Int)),
        VIs (.bool false)]) (by kernel_rfl) (by kernel_rfl) (by kernel_rfl) (LiftAll.at_ (.cons (VIs.lift _) (.cons (VIs.lift _) (.cons (VIs.lift _) (.cons (VIs.lift _) (.cons (VIs.lift _) (.cons (VIs.lift _) (.cons (VIs.lift _) (.cons (VIs.lift _) .nil))))))))) (steps_all (steps_cons ?_ (steps_cons ?_ (steps_cons ?_ (steps_cons ?_ (steps_cons ?_ (steps_cons ?_ (steps_cons ?_ (steps_cons ?_ steps_zero))))))))) ?fin
    · intro a0 w9 K9 hF hB hK hC
      have b8 := hF.base (k := 8) (v := .int .u64 (b : Int)) (by kernel_rfl) rfl
      clear hF hB hK
      go_simp
      exact hC _ _ (bel_refl _) fun _ _ => rfl
    · intro a0 w9 K9 hF hB hK hC
      have b1 := hF.base (k := 1) (v := .int .i64 sz) (by kernel_rfl) rfl
      clear hF hB hK
      go_simp
      exact hC _ _ (bel_refl _) fun _ _ => rfl
    · intro a0 w9 K9 hF hB hK hC
      obtain ⟨v60, e60, z60⟩ := dep hK 0 (g := .data) (j := 1) (k := 60) rfl rfl rfl
      have z60 : v60 = .int .i64 sz := z60
      subst z60
      have HB9 := Lib.hid hB
      clear hF hB hK
      go_simp
      refine (refMant_any HF.out _).mono ?_
      rintro e w7 ⟨rfl, hbl⟩
      exact hC _ _ hbl fun _ _ => rfl
    · intro a0 w9 K9 hF hB hK hC
      obtain ⟨v61, e61, z61⟩ := dep hK 0 (g := .data) (j := 2) (k := 61) rfl rfl rfl
      have z61 : v61 = .int .i64 (p : Int) := z61
      subst z61
      have HB9 := Lib.hid hB
      clear hF hB hK
      go_simp
      exact hC _ _ (bel_refl _) fun _ _ => rfl
    · intro a0 w9 K9 hF hB hK hC
      obtain ⟨v59, e59, z59⟩ := dep hK 0 (g := .data) (j := 0) (k := 59) rfl rfl rfl
      have z59 : v59 = .int .u64 (b : Int) := z59
      subst z59
      obtain ⟨v62, e62, z62⟩ := dep hK 1 (g := .data) (j := 3) (k := 62) rfl rfl rfl
      have z62 : v62 = .int .i64 ((p - 1 : Nat) : Int) := z62
      subst z62
      have HB9 := Lib.hid hB
      clear hF hB hK
      go_simp
      exact hC _ _ (bel_refl _) fun _ _ => rfl
    · intro a0 w9 K9 hF hB hK hC
      have b1 := hF.base (k := 1) (v := .int .i64 sz) (by kernel_rfl) rfl
      clear hF hB hK
      go_simp
      exact hC _ _ (bel_refl _) fun _ _ => rfl
    · intro a0 w9 K9 hF hB hK hC
      obtain ⟨v64, e64, z64⟩ := dep hK 0 (g := .data) (j := 5) (k := 64) rfl rfl rfl
      have z64 : v64 = .int .i64 sz := z64
      subst z64
      have HB9 := Lib.hid hB
      clear hF hB hK
      go_simp
      refine (refHigh_is3 HF.out _ HK.out).mono ?_
      rintro e w7 ⟨rfl, hbl⟩
      exact hC _ _ hbl fun _ _ => rfl
    · intro a0 w9 K9 hF hB hK hC
      obtain ⟨v63, e63, z63⟩ := dep hK 0 (g := .data) (j := 4) (k := 63) rfl rfl rfl
      have z63 : v63 = .int .u64 (x : Int) := z63
      subst z63
      obtain ⟨v65, e65, z65⟩ := dep hK 1 (g := .data) (j := 6) (k := 65) rfl rfl rfl
      have z65 : v65 = .int .u64 (K : Int) := z65
      subst z65
      have HB9 := Lib.hid hB
      clear hF hB hK
      go_simp
      exact hC _ _ (bel_refl _) fun _ _ => rfl
    case fin =>
      intro a0 w9 hF hB hK
      have b1 := hF.base (k := 1) (v := .int .i64 sz) (by kernel_rfl) rfl
      have b5 := hF.base (k := 5) (v := .pointer (some ⟨w1.heap.size, 0, none⟩)) (by kernel_rfl) rfl
      have b6 := hF.base (k := 6) (v := .int .i64 0) (by kernel_rfl) rfl
      have b7 := hF.base (k := 7) (v := .bool s) (by kernel_rfl) rfl
      have b8 := hF.base (k := 8) (v := .int .u64 (b : Int)) (by kernel_rfl) rfl
      have hsz := hF.size
      have hdf := hF.defers
      clear hF
      obtain ⟨v66, e66, z66⟩ := known hK 7 (k := 66) (by decide) rfl
      have z66 : v66 = .bool false := z66
      subst z66
      clear hK
      obtain ⟨⟨l0⟩, df⟩ := a0
      have hs0 : l0.length = 124 := hsz
      clear hsz
      replace hdf : df = _ := hdf
      subst hdf
      obtain ⟨u, rfl⟩ := lits_124 hs0
      clear hs0
      have q1 : u 1 = _ := Option.some.inj b1
      clear b1
      have q5 : u 5 = _ := Option.some.inj b5
      clear b5
      have q6 : u 6 = _ := Option.some.inj b6
      clear b6
      have q7 : u 7 = _ := Option.some.inj b7
      clear b7
      have q8 : u 8 = _ := Option.some.inj b8
      clear b8
      have q66 : u 66 = _ := Option.some.inj e66
      clear e66
      rw [q1, q5, q6, q7, q8, q66]
      clear q1 q5 q6 q7 q8 q66
      have hbl := hB; clear hB
      replace Ra := Lib.hid (Ra.out.below hbl)
      replace HNa := Lib.hid (HNa.out.below hbl)
      replace Re := Lib.hid (Re.out.below hbl)
      replace HNe := Lib.hid (HNe.out.below hbl)
      replace VX := Lib.hid (VX.out.below hbl VX.out.lt)
      replace HW := Lib.hid (bel_trans HW.out hbl); clear hbl
      clear VX0 VX1 VX2
      have VX0 : w9.cell? ⟨w1.heap.size, 0, none⟩ = some (.bool s) := VX.out.cell 0
      have VX1 : w9.cell? ⟨w1.heap.size, 1, none⟩ = some (.slice Aa (limbs n1).length ca) := VX.out.cell 1
      have VX2 : w9.cell? ⟨w1.heap.size, 2, none⟩ = some (.slice Ae (limbs d1).length ce) := VX.out.cell 2
      refine wpList_nil ?_
      go_wp2_with fail
      refine (refFrac_is3 HF.out b _ HG.out.1 HG.out.2.1 HG.out.2.2.1).mono ?_
      rintro e w4 ⟨rfl, hbl⟩
      replace Ra := Lib.hid (Ra.out.below hbl)
      replace HNa := Lib.hid (HNa.out.below hbl)
      replace Re := Lib.hid (Re.out.below hbl)
      replace HNe := Lib.hid (HNe.out.below hbl)
      replace VX := Lib.hid (VX.out.below hbl VX.out.lt)
      replace HW := Lib.hid (bel_trans HW.out hbl); clear hbl
      clear VX0 VX1 VX2
      have VX0 : w4.cell? ⟨w1.heap.size, 0, none⟩ = some (.bool s) := VX.out.cell 0
      have VX1 : w4.cell? ⟨w1.heap.size, 1, none⟩ = some (.slice Aa (limbs n1).length ca) := VX.out.cell 1
      have VX2 : w4.cell? ⟨w1.heap.size, 2, none⟩ = some (.slice Ae (limbs d1).length ce) := VX.out.cell 2
      go_upto_region 8 with fail
      obtain ⟨wf, hwf⟩ : ∃ wf, wf = w4.alloc (.cells #[.string (dec an_), .string (dec cn_)] 38) := ⟨_, rfl⟩
      rw [← hwf]
      have hbl : Below w4.heap.size w4 wf := by rw [hwf]; exact bel_alloc (bel_refl _) _
      have VF : Blk wf (w4.heap.size) 38 #[.string (dec an_), .string (dec cn_)] := by
        have hz := Blk.new (w4) 38 #[.string (dec an_), .string (dec cn_)]
        rw [hwf]
        exact hz
      clear hwf
      replace Ra := Lib.hid (Ra.out.below hbl)
      replace HNa := Lib.hid (HNa.out.below hbl)
      replace Re := Lib.hid (Re.out.below hbl)
      replace HNe := Lib.hid (HNe.out.below hbl)
      replace VX := Lib.hid (VX.out.below hbl VX.out.lt)
      replace HW := Lib.hid (bel_trans HW.out hbl); clear hbl
      replace VF := Lib.hid VF
      clear VX0 VX1 VX2
      have VX0 : wf.cell? ⟨w1.heap.size, 0, none⟩ = some (.bool s) := VX.out.cell 0
      have VX1 : wf.cell? ⟨w1.heap.size, 1, none⟩ = some (.slice Aa (limbs n1).length ca) := VX.out.cell 1
      have VX2 : wf.cell? ⟨w1.heap.size, 2, none⟩ = some (.slice Ae (limbs d1).length ce) := VX.out.cell 2
      have VF0 : wf.cell? ⟨w4.heap.size, 0, none⟩ = some (.string (dec an_)) := VF.out.cell 0
      have VF1 : wf.cell? ⟨w4.heap.size, 1, none⟩ = some (.string (dec cn_)) := VF.out.cell 1
      go_wp2_with fail
      refine (refCommon_is an_ cn_ _ (by have := HG.out.2.2.2.2.1; omega) (by have := HG.out.2.2.2.2.2.1; omega) HG.out.2.2.2.1).mono ?_
      rintro e w5 ⟨rfl, hbl⟩
      replace Ra := Lib.hid (Ra.out.below hbl)
      replace HNa := Lib.hid (HNa.out.below hbl)
      replace Re := Lib.hid (Re.out.below hbl)
      replace HNe := Lib.hid (HNe.out.below hbl)
      replace VX := Lib.hid (VX.out.below hbl VX.out.lt)
      replace VF := Lib.hid (VF.out.below hbl VF.out.lt)
      replace HW := Lib.hid (bel_trans HW.out hbl); clear hbl
      clear VX0 VX1 VX2 VF0 VF1
      have VX0 : w5.cell? ⟨w1.heap.size, 0, none⟩ = some (.bool s) := VX.out.cell 0
      have VX1 : w5.cell? ⟨w1.heap.size, 1, none⟩ = some (.slice Aa (limbs n1).length ca) := VX.out.cell 1
      have VX2 : w5.cell? ⟨w1.heap.size, 2, none⟩ = some (.slice Ae (limbs d1).length ce) := VX.out.cell 2
      have VF0 : w5.cell? ⟨w4.heap.size, 0, none⟩ = some (.string (dec an_)) := VF.out.cell 0
      have VF1 : w5.cell? ⟨w4.heap.size, 1, none⟩ = some (.string (dec cn_)) := VF.out.cell 1
      go_upto_region 9 with fail
      refine wp_region_typed 12 (TOf [VIs (.pointer (some ⟨w4.heap.size, 0, none⟩)),
          VIs (.string (dec an_)),
          VIs (.string (dec g)),
          VIs (.agg #[.string (dec n1), .string (dec r1)]),
          VIs (.string (dec n1)),
          VIs (.pointer (some ⟨w4.heap.size, 1, none⟩)),
          VIs (.string (dec cn_)),
          VIs (.string (dec g)),
          VIs (.agg #[.string (dec d1), .string (dec r2)]),
          VIs (.string (dec d1)),
          VIs (.string (dec n1)),
          VIs (.string (dec d1))]) (by kernel_rfl) (by kernel_rfl) (by kernel_rfl) (LiftAll.at_ (.cons (VIs.lift _) (.cons (VIs.lift _) (.cons (VIs.lift _) (.cons (VIs.lift _) (.cons (VIs.lift _) (.cons (VIs.lift _) (.cons (VIs.lift _) (.cons (VIs.lift _) (.cons (VIs.lift _) (.cons (VIs.lift _) (.cons (VIs.lift _) (.cons (VIs.lift _) .nil))))))))))))) (steps_all (steps_cons ?_ (steps_cons ?_ (steps_cons ?_ (steps_cons ?_ (steps_cons ?_ (steps_cons ?_ (steps_cons ?_ (steps_cons ?_ (steps_cons ?_ (steps_cons ?_ (steps_cons ?_ (steps_cons ?_ steps_zero))))))))))))) ?fin
      · intro a0 w9 K9 hF hB hK hC
        have b9 := hF.base (k := 9) (v := .pointer (some ⟨w4.heap.size, 0, none⟩)) (by kernel_rfl) rfl
        clear hF hB hK
        go_simp
        exact hC _ _ (bel_refl _) fun _ _ => rfl
      · intro a0 w9 K9 hF hB hK hC
        obtain ⟨v85, e85, z85⟩ := dep hK 0 (g := .data) (j := 0) (k := 85) rfl rfl rfl
        have z85 : v85 = .pointer (some ⟨w4.heap.size, 0, none⟩) := z85
        subst z85
        have x9 : w9.cell? ⟨w4.heap.size, 0, none⟩ = some (.string (dec an_)) := (VF.out.below hB VF.out.lt).cell 0
        clear hF hB hK
        go_simp
        exact hC _ _ (bel_refl _) fun _ _ => rfl
      · intro a0 w9 K9 hF hB hK hC
        have b10 := hF.base (k := 10) (v := .string (dec g)) (by kernel_rfl) rfl
        clear hF hB hK
        go_simp
        exact hC _ _ (bel_refl _) fun _ _ => rfl
      · intro a0 w9 K9 hF hB hK hC
        obtain ⟨v86, e86, z86⟩ := dep hK 0 (g := .data) (j := 1) (k := 86) rfl rfl rfl
        have z86 : v86 = .string (dec an_) := z86
        subst z86
        obtain ⟨v87, e87, z87⟩ := dep hK 1 (g := .data) (j := 2) (k := 87) rfl rfl rfl
        have z87 : v87 = .string (dec g) := z87
        subst z87
        have HB9 := Lib.hid hB
        clear hF hB hK
        go_simp
        refine (refDiv_is an_ g _ (by have := HG.out.2.2.2.2.1; omega) (by have := HG.out.2.2.2.2.2.2.1; omega) HG.out.2.2.2.2.2.2.2.1 HG.out.2.2.2.2.2.2.2.2.1 HG.out.2.2.2.2.2.2.2.2.2.2.1).mono ?_
        rintro e w7 ⟨rfl, hbl⟩
        exact hC _ _ hbl fun _ _ => rfl
      · intro a0 w9 K9 hF hB hK hC
        obtain ⟨v88, e88, z88⟩ := dep hK 0 (g := .data) (j := 3) (k := 88) rfl rfl rfl
        have z88 : v88 = .agg #[.string (dec n1), .string (dec r1)] := z88
        subst z88
        have HB9 := Lib.hid hB
        clear hF hB hK
        go_simp
        exact hC _ _ (bel_refl _) fun _ _ => rfl
      · intro a0 w9 K9 hF hB hK hC
        have b9 := hF.base (k := 9) (v := .pointer (some ⟨w4.heap.size, 0, none⟩)) (by kernel_rfl) rfl
        clear hF hB hK
        go_simp
        exact hC _ _ (bel_refl _) fun _ _ => rfl
      · intro a0 w9 K9 hF hB hK hC
        obtain ⟨v90, e90, z90⟩ := dep hK 0 (g := .data) (j := 5) (k := 90) rfl rfl rfl
        have z90 : v90 = .pointer (some ⟨w4.heap.size, 1, none⟩) := z90
        subst z90
        have x9 : w9.cell? ⟨w4.heap.size, 1, none⟩ = some (.string (dec cn_)) := (VF.out.below hB VF.out.lt).cell 1
        clear hF hB hK
        go_simp
        exact hC _ _ (bel_refl _) fun _ _ => rfl
      · intro a0 w9 K9 hF hB hK hC
        have b10 := hF.base (k := 10) (v := .string (dec g)) (by kernel_rfl) rfl
        clear hF hB hK
        go_simp
        exact hC _ _ (bel_refl _) fun _ _ => rfl
      · intro a0 w9 K9 hF hB hK hC
        obtain ⟨v91, e91, z91⟩ := dep hK 0 (g := .data) (j := 6) (k := 91) rfl rfl rfl
        have z91 : v91 = .string (dec cn_) := z91
        subst z91
        obtain ⟨v92, e92, z92⟩ := dep hK 1 (g := .data) (j := 7) (k := 92) rfl rfl rfl
        have z92 : v92 = .string (dec g) := z92
        subst z92
        have HB9 := Lib.hid hB
        clear hF hB hK
        go_simp
        refine (refDiv_is cn_ g _ (by have := HG.out.2.2.2.2.2.1; omega) (by have := HG.out.2.2.2.2.2.2.1; omega) HG.out.2.2.2.2.2.2.2.1 HG.out.2.2.2.2.2.2.2.2.2.1 HG.out.2.2.2.2.2.2.2.2.2.2.2).mono ?_
        rintro e w7 ⟨rfl, hbl⟩
        exact hC _ _ hbl fun _ _ => rfl
      · intro a0 w9 K9 hF hB hK hC
        obtain ⟨v93, e93, z93⟩ := dep hK 0 (g := .data) (j := 8) (k := 93) rfl rfl rfl
        have z93 : v93 = .agg #[.string (dec d1), .string (dec r2)] := z93
        subst z93
        have HB9 := Lib.hid hB
        clear hF hB hK
        go_simp
        exact hC _ _ (bel_refl _) fun _ _ => rfl
      · intro a0 w9 K9 hF hB hK hC
        obtain ⟨v89, e89, z89⟩ := dep hK 0 (g := .data) (j := 4) (k := 89) rfl rfl rfl
        have z89 : v89 = .string (dec n1) := z89
        subst z89
        clear hF hB hK
        go_simp
        exact hC _ _ (bel_refl _) fun _ _ => rfl
      · intro a0 w9 K9 hF hB hK hC
        obtain ⟨v94, e94, z94⟩ := dep hK 0 (g := .data) (j := 9) (k := 94) rfl rfl rfl
        have z94 : v94 = .string (dec d1) := z94
        subst z94
        clear hF hB hK
        go_simp
        exact hC _ _ (bel_refl _) fun _ _ => rfl
      case fin =>
        intro a0 w9 hF hB hK
        have b1 := hF.base (k := 1) (v := .int .i64 sz) (by kernel_rfl) rfl
        have b5 := hF.base (k := 5) (v := .pointer (some ⟨w1.heap.size, 0, none⟩)) (by kernel_rfl) rfl
        have b6 := hF.base (k := 6) (v := .int .i64 0) (by kernel_rfl) rfl
        have b7 := hF.base (k := 7) (v := .bool s) (by kernel_rfl) rfl
        have b8 := hF.base (k := 8) (v := .int .u64 (b : Int)) (by kernel_rfl) rfl
        have b9 := hF.base (k := 9) (v := .pointer (some ⟨w4.heap.size, 0, none⟩)) (by kernel_rfl) rfl
        have b10 := hF.base (k := 10) (v := .string (dec g)) (by kernel_rfl) rfl
        have hsz := hF.size
        have hdf := hF.defers
        clear hF
        obtain ⟨v11, e11, z11⟩ := known hK 10 (k := 11) (by decide) rfl
        have z11 : v11 = .string (dec n1) := z11
        subst z11
        obtain ⟨v12, e12, z12⟩ := known hK 11 (k := 12) (by decide) rfl
        have z12 : v12 = .string (dec d1) := z12
        subst z12
        clear hK
        obtain ⟨⟨l0⟩, df⟩ := a0
        have hs0 : l0.length = 124 := hsz
        clear hsz
        replace hdf : df = _ := hdf
        subst hdf
        obtain ⟨u, rfl⟩ := lits_124 hs0
        clear hs0
        have q1 : u 1 = _ := Option.some.inj b1
        clear b1
        have q5 : u 5 = _ := Option.some.inj b5
        clear b5
        have q6 : u 6 = _ := Option.some.inj b6
        clear b6
        have q7 : u 7 = _ := Option.some.inj b7
        clear b7
        have q8 : u 8 = _ := Option.some.inj b8
        clear b8
        have q9 : u 9 = _ := Option.some.inj b9
        clear b9
        have q10 : u 10 = _ := Option.some.inj b10
        clear b10
        have q11 : u 11 = _ := Option.some.inj e11
        clear e11
        have q12 : u 12 = _ := Option.some.inj e12
        clear e12
        rw [q1, q5, q6, q7, q8, q9, q10, q11, q12]
        clear q1 q5 q6 q7 q8 q9 q10 q11 q12
        have hbl := hB; clear hB
        replace Ra := Lib.hid (Ra.out.below hbl)
        replace HNa := Lib.hid (HNa.out.below hbl)
        replace Re := Lib.hid (Re.out.below hbl)
        replace HNe := Lib.hid (HNe.out.below hbl)
        replace VX := Lib.hid (VX.out.below hbl VX.out.lt)
        replace VF := Lib.hid (VF.out.below hbl VF.out.lt)
        replace HW := Lib.hid (bel_trans HW.out hbl); clear hbl
        clear VX0 VX1 VX2 VF0 VF1
        have VX0 : w9.cell? ⟨w1.heap.size, 0, none⟩ = some (.bool s) := VX.out.cell 0
        have VX1 : w9.cell? ⟨w1.heap.size, 1, none⟩ = some (.slice Aa (limbs n1).length ca) := VX.out.cell 1
        have VX2 : w9.cell? ⟨w1.heap.size, 2, none⟩ = some (.slice Ae (limbs d1).length ce) := VX.out.cell 2
        have VF0 : w9.cell? ⟨w4.heap.size, 0, none⟩ = some (.string (dec an_)) := VF.out.cell 0
        have VF1 : w9.cell? ⟨w4.heap.size, 1, none⟩ = some (.string (dec cn_)) := VF.out.cell 1
        refine wpList_nil ?_
        clear hfd1 hfd2
        go_wp2_with fail
        refine (refOver_is n1 _ _ HO.out.1).mono ?_
        rintro e w6 ⟨rfl, hbl⟩
        replace Ra := Lib.hid (Ra.out.below hbl)
        replace HNa := Lib.hid (HNa.out.below hbl)
        replace Re := Lib.hid (Re.out.below hbl)
        replace HNe := Lib.hid (HNe.out.below hbl)
        replace VX := Lib.hid (VX.out.below hbl VX.out.lt)
        replace VF := Lib.hid (VF.out.below hbl VF.out.lt)
        replace HW := Lib.hid (bel_trans HW.out hbl); clear hbl
        clear VX0 VX1 VX2 VF0 VF1
        have VX0 : w6.cell? ⟨w1.heap.size, 0, none⟩ = some (.bool s) := VX.out.cell 0
        have VX1 : w6.cell? ⟨w1.heap.size, 1, none⟩ = some (.slice Aa (limbs n1).length ca) := VX.out.cell 1
        have VX2 : w6.cell? ⟨w1.heap.size, 2, none⟩ = some (.slice Ae (limbs d1).length ce) := VX.out.cell 2
        have VF0 : w6.cell? ⟨w4.heap.size, 0, none⟩ = some (.string (dec an_)) := VF.out.cell 0
        have VF1 : w6.cell? ⟨w4.heap.size, 1, none⟩ = some (.string (dec cn_)) := VF.out.cell 1
        go_wp2_with fail
        refine (refOver_is d1 _ _ HO.out.2).mono ?_
        rintro e w7 ⟨rfl, hbl⟩
        replace Ra := Lib.hid (Ra.out.below hbl)
        replace HNa := Lib.hid (HNa.out.below hbl)
        replace Re := Lib.hid (Re.out.below hbl)
        replace HNe := Lib.hid (HNe.out.below hbl)
        replace VX := Lib.hid (VX.out.below hbl VX.out.lt)
        replace VF := Lib.hid (VF.out.below hbl VF.out.lt)
        replace HW := Lib.hid (bel_trans HW.out hbl); clear hbl
        clear VX0 VX1 VX2 VF0 VF1
        have VX0 : w7.cell? ⟨w1.heap.size, 0, none⟩ = some (.bool s) := VX.out.cell 0
        have VX1 : w7.cell? ⟨w1.heap.size, 1, none⟩ = some (.slice Aa (limbs n1).length ca) := VX.out.cell 1
        have VX2 : w7.cell? ⟨w1.heap.size, 2, none⟩ = some (.slice Ae (limbs d1).length ce) := VX.out.cell 2
        have VF0 : w7.cell? ⟨w4.heap.size, 0, none⟩ = some (.string (dec an_)) := VF.out.cell 0
        have VF1 : w7.cell? ⟨w4.heap.size, 1, none⟩ = some (.string (dec cn_)) := VF.out.cell 1
        go_wp2_with fail
        refine (alive3 _).mono ?_
        rintro e w8 ⟨rfl, hbl⟩
        replace Ra := Lib.hid (Ra.out.below hbl)
        replace HNa := Lib.hid (HNa.out.below hbl)
        replace Re := Lib.hid (Re.out.below hbl)
        replace HNe := Lib.hid (HNe.out.below hbl)
        replace VX := Lib.hid (VX.out.below hbl VX.out.lt)
        replace VF := Lib.hid (VF.out.below hbl VF.out.lt)
        replace HW := Lib.hid (bel_trans HW.out hbl); clear hbl
        clear VX0 VX1 VX2 VF0 VF1
        have VX0 : w8.cell? ⟨w1.heap.size, 0, none⟩ = some (.bool s) := VX.out.cell 0
        have VX1 : w8.cell? ⟨w1.heap.size, 1, none⟩ = some (.slice Aa (limbs n1).length ca) := VX.out.cell 1
        have VX2 : w8.cell? ⟨w1.heap.size, 2, none⟩ = some (.slice Ae (limbs d1).length ce) := VX.out.cell 2
        have VF0 : w8.cell? ⟨w4.heap.size, 0, none⟩ = some (.string (dec an_)) := VF.out.cell 0
        have VF1 : w8.cell? ⟨w4.heap.size, 1, none⟩ = some (.string (dec cn_)) := VF.out.cell 1
        go_wp2_with fail
        refine (refIs_true ⟨s, n1, d1⟩ false Aa Ae ca ce _ Ra.out Re.out HT.out.1 HT.out.2.1 HT.out.2.2).mono ?_
        rintro e w9 ⟨rfl, hbl⟩
        replace Ra := Lib.hid (Ra.out.below hbl)
        replace HNa := Lib.hid (HNa.out.below hbl)
        replace Re := Lib.hid (Re.out.below hbl)
        replace HNe := Lib.hid (HNe.out.below hbl)
        replace VX := Lib.hid (VX.out.below hbl VX.out.lt)
        replace VF := Lib.hid (VF.out.below hbl VF.out.lt)
        replace HW := Lib.hid (bel_trans HW.out hbl); clear hbl
        clear VX0 VX1 VX2 VF0 VF1
        have VX0 : w9.cell? ⟨w1.heap.size, 0, none⟩ = some (.bool s) := VX.out.cell 0
        have VX1 : w9.cell? ⟨w1.heap.size, 1, none⟩ = some (.slice Aa (limbs n1).length ca) := VX.out.cell 1
        have VX2 : w9.cell? ⟨w1.heap.size, 2, none⟩ = some (.slice Ae (limbs d1).length ce) := VX.out.cell 2
        have VF0 : w9.cell? ⟨w4.heap.size, 0, none⟩ = some (.string (dec an_)) := VF.out.cell 0
        have VF1 : w9.cell? ⟨w4.heap.size, 1, none⟩ = some (.string (dec cn_)) := VF.out.cell 1
        go_wp2
        go_ret
        exact ⟨rfl, HW.out⟩

set_option maxRecDepth 100000 in
set_option maxHeartbeats 1000000 in
theorem values_fit_t {p q t : Nat} {b : Nat} {s : Bool} {n1 d1 : Nat} (N : Nat) (sz : Int) (w : World) (hv : ∀ w1, Calls Try.prog 47 #[.int .u64 (N : Int), .int .i64 sz] w1 (RetQE ⟨s, n1, d1⟩ 0 w1)) (hf : Fm sz p q t) (zz : (sz == 32) = true) (hbZ : b < 2 ^ (sz.toNat - 1)) (hs : b = 0 → s = false) (hN : N = b + s.toNat * 2 ^ (sz.toNat - 1)) (hb : ¬ (t + q + 2) * 2 ^ (p - 1) ≤ b) (hn1 : LN p q b = n1) (hd1 : LD p q b = d1) (ho : n1 < Top) (ho2 : d1 < Top) :
    Calls Try.prog 9 #[.int .u64 (N : Int), .int .i64 sz] w (RetT w) := by
  have HV := Lib.hid hv; clear hv
  have HZ := Lib.hid zz; clear zz
  obtain ⟨op1, op2, oq0, oq, ot, os1, os2⟩ := hf.ok
  have HF := Lib.hid hf; clear hf
  obtain ⟨z, hz3⟩ : ∃ z : Nat, sz = (z : Int) + 1 := ⟨sz.toNat - 1, by omega⟩
  have hz63 : z ≤ 63 := by omega
  have hzz : sz.toNat - 1 = z := by omega
  rw [hzz] at hbZ hN
  obtain ⟨Z, hZ⟩ : ∃ Z, Z = 2 ^ z := ⟨_, rfl⟩
  obtain ⟨H, hH⟩ : ∃ H, H = 2 ^ (p - 1) := ⟨_, rfl⟩
  obtain ⟨K, hK⟩ : ∃ K, K = t + q + 2 := ⟨_, rfl⟩
  have hZ1 : Z ≤ 9223372036854775808 := by rw [hZ]; exact Nat.pow_le_pow_right (n := 2) (j := 63) (by decide) hz63
  obtain ⟨SZ, hSZ⟩ : ∃ S, S = s.toNat * Z := ⟨_, rfl⟩
  have hsz : SZ ≤ Z := by rw [hSZ]; have := Nat.mul_le_mul_right Z (Bool.toNat_le s); omega
  have hbZ2 := hbZ
  have hN2 := hN
  rw [← hZ] at hbZ hN
  rw [← hSZ] at hN
  have hNlt : N < 18446744073709551616 := by omega
  have HS := Lib.hid hs
  have a1 : bits BinOp.and IntKind.u64 (N : Int) (Z : Int) = (SZ : Int) := by rw [u64_and_nat _ _ hNlt (by omega), hN2, hZ, and_high hbZ2, hSZ, hZ]
  have a2 : ((SZ : Int) != 0) = s := by
    rw [hSZ]
    have : 0 < Z := by rw [hZ]; exact Nat.pow_pos (by decide)
    cases s
    · simp
    · simp; omega
  have a3 : bits BinOp.andNot IntKind.u64 (N : Int) (Z : Int) = (b : Int) := by rw [u64_andNot_nat _ _ hNlt (by omega), hN2, hZ, andNot_high hbZ2 hz63]
  have hNZ : N ≠ Z := by
    have h0 : 0 < Z := by rw [hZ]; exact Nat.pow_pos (by decide)
    cases s
    · rw [hN, hSZ]; simp; omega
    · have : b ≠ 0 := fun h => by have := hs h; cases this
      rw [hN, hSZ]; simp; omega
  have a4 : ((N : Int) == (Z : Int)) = false := by simp only [beq_eq_false_iff_ne, ne_eq]; omega
  have a5 : ¬ (N : Int) = (Z : Int) := by omega
  obtain ⟨x, hx⟩ : ∃ x, x = b / H := ⟨_, rfl⟩
  have a6 : IntKind.i64.wrap ((p : Int) - 1) = ((p - 1 : Nat) : Int) := by rw [IntKind.wrap_i64]; omega
  have a7 : (2 : Int) ^ (p - 1) = (H : Int) := by rw [hH, Int.natCast_pow]; rfl
  have a8 : (b : Int) / (H : Int) = (x : Int) := by rw [hx]; exact (Int.natCast_ediv b H).symm
  have hxK : x ≠ K := by rw [hx, hK]; intro h; refine hb ?_; rw [← h, ← hH]; exact Nat.div_mul_le_self b H
  have a9 : ((x : Int) == (K : Int)) = false := by simp only [beq_eq_false_iff_ne, ne_eq]; omega
  clear hxK
  have HN32 : Hid (sz = 32 → N < 4294967296) := by
    show sz = 32 → N < 4294967296
    intro h
    obtain rfl : z = 31 := by omega
    rw [show (2 : Nat) ^ 31 = 2147483648 from rfl] at hZ
    omega
  have HHZ := Lib.hid (show Z = 2 ^ (sz.toNat - 1) by rw [hzz]; exact hZ)
  have HK := Lib.hid hK; clear hK
  clear hz3 hz63 hzz hZ hH hZ1 hSZ hsz hbZ2 hN2 hN hNlt hNZ hx hbZ hs
  have hble : b ≤ (t + q + 2) * 2 ^ (p - 1) := by omega
  obtain ⟨an_, han⟩ : ∃ a, FN p q b = a := ⟨_, rfl⟩
  obtain ⟨cn_, hcn⟩ : ∃ a, FD p q b = a := ⟨_, rfl⟩
  obtain ⟨g, hg⟩ : ∃ g, Nat.gcd an_ cn_ = g := ⟨_, rfl⟩
  have l1 := FN_len HF.out hble
  have l2 := FD_len (b := b) HF.out
  have hc0p := FD_pos p q b
  rw [han] at l1
  rw [hcn] at l2 hc0p
  have hgl : (decL g).length ≤ 340 := Nat.le_trans (decL_mono (by rw [← hg]; exact Nat.gcd_le_right an_ hc0p)) l2
  have hg0 : g ≠ 0 := by rw [← hg]; exact Nat.ne_of_gt (Nat.gcd_pos_of_pos_right _ hc0p)
  have hq1 : an_ / g = n1 := by rw [← hn1, ← hg, ← han, ← hcn]; rfl
  have hq2 : cn_ / g = d1 := by rw [← hd1, ← hg, ← han, ← hcn]; rfl
  obtain ⟨r1, hr1⟩ : ∃ r, an_ % g = r := ⟨_, rfl⟩
  obtain ⟨r2, hr2⟩ : ∃ r, cn_ % g = r := ⟨_, rfl⟩
  have hQR : QR ⟨s, n1, d1⟩ := by rw [← hn1, ← hd1]; exact valQ_right HS.out
  have HG := Lib.hid (And.intro hble (And.intro han (And.intro hcn (And.intro hg (And.intro l1 (And.intro l2 (And.intro hgl (And.intro hg0 (And.intro hq1 (And.intro hq2 (And.intro hr1 hr2))))))))))); clear hble han hcn hg l1 l2 hc0p hgl hg0 hq1 hq2 hr1 hr2 hb hn1 hd1
  have HT := Lib.hid (And.intro ho (And.intro ho2 hQR)); clear hQR
  have HO := Lib.hid (And.intro (decide_eq_false (show ¬ Top ≤ n1 by omega)) (decide_eq_false (show ¬ Top ≤ d1 by omega))); clear ho ho2
  have hfd1 := fun W => field_q (dec n1) (dec r1) W
  have hfd2 := fun W => field_q (dec d1) (dec r2) W
  have HW := Lib.hid (bel_refl w)
  go_enter Try.func9, Try.ntmps9
  go_wp2_with fail
  refine (HV.out _).mono ?_
  rintro e w1 ⟨va, ve, rfl, hna, hne, hbl⟩
  replace HW := Lib.hid (bel_trans HW.out hbl); clear hbl
  have HNa := Lib.hid hna; clear hna
  obtain ⟨Aa, ca, rfl, hca, hra⟩ := HNa.out.row
  have Ra := Lib.hid hra; have HCa := Lib.hid hca; clear hra hca
  have HNe := Lib.hid hne; clear hne
  obtain ⟨Ae, ce, rfl, hce, hre⟩ := HNe.out.row
  have Re := Lib.hid hre; have HCe := Lib.hid hce; clear hre hce
  go_upto_region 2 with fail
  obtain ⟨wm, hwm⟩ : ∃ wm, wm = w1.alloc (.cells #[.bool s, .slice Aa (limbs n1).length ca, .slice Ae (limbs d1).length ce] 25) := ⟨_, rfl⟩
  rw [← hwm]
  have hbl : Below w1.heap.size w1 wm := by rw [hwm]; exact bel_alloc (bel_refl _) _
  have VX : Blk wm (w1.heap.size) 25 #[.bool s, .slice Aa (limbs n1).length ca, .slice Ae (limbs d1).length ce] := by
    have hz := Blk.new (w1) 25 #[.bool s, .slice Aa (limbs n1).length ca, .slice Ae (limbs d1).length ce]
    rw [hwm]
    exact hz
  clear hwm
  replace Ra := Lib.hid (Ra.out.below hbl)
  replace HNa := Lib.hid (HNa.out.below hbl)
  replace Re := Lib.hid (Re.out.below hbl)
  replace HNe := Lib.hid (HNe.out.below hbl)
  replace HW := Lib.hid (bel_trans HW.out hbl); clear hbl
  replace VX := Lib.hid VX
  have VX0 : wm.cell? ⟨w1.heap.size, 0, none⟩ = some (.bool s) := VX.out.cell 0
  have VX1 : wm.cell? ⟨w1.heap.size, 1, none⟩ = some (.slice Aa (limbs n1).length ca) := VX.out.cell 1
  have VX2 : wm.cell? ⟨w1.heap.size, 2, none⟩ = some (.slice Ae (limbs d1).length ce) := VX.out.cell 2
  go_cut [39] (fun v wx => v = .bool false ∧ Below wm.heap.size wm wx)
  case first =>
    obtain rfl : sz = 32 := by simpa using HZ.out
    have g1 : (N : Int) / 4294967296 = 0 := by have := HN32.out rfl; omega
    go_wp2_with fail
    refine (high3_any HF.out _ (H := Z) HHZ.out).mono ?_
    rintro e w7 ⟨rfl, hbl⟩
    have H7 := Lib.hid hbl; clear hbl
    go_wp2_with fail
    go_meet
    exact ⟨rfl, H7.out⟩
  case rest =>
    obtain ⟨rfl, hbl⟩ := hcut
    replace Ra := Lib.hid (Ra.out.below hbl)
    replace HNa := Lib.hid (HNa.out.below hbl)
    replace Re := Lib.hid (Re.out.below hbl)
    replace HNe := Lib.hid (HNe.out.below hbl)
    replace VX := Lib.hid (VX.out.below hbl VX.out.lt)
    replace HW := Lib.hid (bel_trans HW.out hbl); clear hbl
    clear VX0 VX1 VX2
    have VX0 : wc.cell? ⟨w1.heap.size, 0, none⟩ = some (.bool s) := VX.out.cell 0
    have VX1 : wc.cell? ⟨w1.heap.size, 1, none⟩ = some (.slice Aa (limbs n1).length ca) := VX.out.cell 1
    have VX2 : wc.cell? ⟨w1.heap.size, 2, none⟩ = some (.slice Ae (limbs d1).length ce) := VX.out.cell 2
    go_wp2_with fail
    refine (high3_any HF.out _ HHZ.out).mono ?_
    rintro e w2 ⟨rfl, hbl⟩
    replace Ra := Lib.hid (Ra.out.below hbl)
    replace HNa := Lib.hid (HNa.out.below hbl)
    replace Re := Lib.hid (Re.out.below hbl)
    replace HNe := Lib.hid (HNe.out.below hbl)
    replace VX := Lib.hid (VX.out.below hbl VX.out.lt)
    replace HW := Lib.hid (bel_trans HW.out hbl); clear hbl
    clear VX0 VX1 VX2
    have VX0 : w2.cell? ⟨w1.heap.size, 0, none⟩ = some (.bool s) := VX.out.cell 0
    have VX1 : w2.cell? ⟨w1.heap.size, 1, none⟩ = some (.slice Aa (limbs n1).length ca) := VX.out.cell 1
    have VX2 : w2.cell? ⟨w1.heap.size, 2, none⟩ = some (.slice Ae (limbs d1).length ce) := VX.out.cell 2
    go_wp2_with fail
    refine (high3_any HF.out _ HHZ.out).mono ?_
    rintro e w3 ⟨rfl, hbl⟩
    replace Ra := Lib.hid (Ra.out.below hbl)
    replace HNa := Lib.hid (HNa.out.below hbl)
    replace Re := Lib.hid (Re.out.below hbl)
    replace HNe := Lib.hid (HNe.out.below hbl)
    replace VX := Lib.hid (VX.out.below hbl VX.out.lt)
    replace HW := Lib.hid (bel_trans HW.out hbl); clear hbl
    clear VX0 VX1 VX2
    have VX0 : w3.cell? ⟨w1.heap.size, 0, none⟩ = some (.bool s) := VX.out.cell 0
    have VX1 : w3.cell? ⟨w1.heap.size, 1, none⟩ = some (.slice Aa (limbs n1).length ca) := VX.out.cell 1
    have VX2 : w3.cell? ⟨w1.heap.size, 2, none⟩ = some (.slice Ae (limbs d1).length ce) := VX.out.cell 2
    go_upto_region 5 with fail
    refine wp_region_typed 8 (TOf [VIs (.int .u64 (b : Int)),
        VIs (.int .i64 sz),
        VIs (.int .i64 (p : Int)),
        VIs (.int .i64 ((p - 1 : Nat) : Int)),
        VIs (.int .u64 (x : Int)),
        VIs (.int .i64 sz),
        VIs (.int .u64 (K : Int)),
        VIs (.bool false)]) (by kernel_rfl) (by kernel_rfl) (by kernel_rfl) (LiftAll.at_ (.cons (VIs.lift _) (.cons (VIs.lift _) (.cons (VIs.lift _) (.cons (VIs.lift _) (.cons (VIs.lift _) (.cons (VIs.lift _) (.cons (VIs.lift _) (.cons (VIs.lift _) .nil))))))))) (steps_all (steps_cons ?_ (steps_cons ?_ (steps_cons ?_ (steps_cons ?_ (steps_cons ?_ (steps_cons ?_ (steps_cons ?_ (steps_cons ?_ steps_zero))))))))) ?fin
    · intro a0 w9 K9 hF hB hK hC
      have b8 := hF.base (k := 8) (v := .int .u64 (b : Int)) (by kernel_rfl) rfl
      clear hF hB hK
      go_simp
      exact hC _ _ (bel_refl _) fun _ _ => rfl
    · intro a0 w9 K9 hF hB hK hC
      have b1 := hF.base (k := 1) (v := .int .i64 sz) (by kernel_rfl) rfl
      clear hF hB hK
      go_simp
      exact hC _ _ (bel_refl _) fun _ _ => rfl
    · intro a0 w9 K9 hF hB hK hC
      obtain ⟨v60, e60, z60⟩ := dep hK 0 (g := .data) (j := 1) (k := 60) rfl rfl rfl
      have z60 : v60 = .int .i64 sz := z60
      subst z60
      have HB9 := Lib.hid hB
      clear hF hB hK
      go_simp
      refine (refMant_any HF.out _).mono ?_
      rintro e w7 ⟨rfl, hbl⟩
      exact hC _ _ hbl fun _ _ => rfl
    · intro a0 w9 K9 hF hB hK hC
      obtain ⟨v61, e61, z61⟩ := dep hK 0 (g := .data) (j := 2) (k := 61) rfl rfl rfl
      have z61 : v61 = .int .i64 (p : Int) := z61
      subst z61
      have HB9 := Lib.hid hB
      clear hF hB hK
      go_simp
      exact hC _ _ (bel_refl _) fun _ _ => rfl
    · intro a0 w9 K9 hF hB hK hC
      obtain ⟨v59, e59, z59⟩ := dep hK 0 (g := .data) (j := 0) (k := 59) rfl rfl rfl
      have z59 : v59 = .int .u64 (b : Int) := z59
      subst z59
      obtain ⟨v62, e62, z62⟩ := dep hK 1 (g := .data) (j := 3) (k := 62) rfl rfl rfl
      have z62 : v62 = .int .i64 ((p - 1 : Nat) : Int) := z62
      subst z62
      have HB9 := Lib.hid hB
      clear hF hB hK
      go_simp
      exact hC _ _ (bel_refl _) fun _ _ => rfl
    · intro a0 w9 K9 hF hB hK hC
      have b1 := hF.base (k := 1) (v := .int .i64 sz) (by kernel_rfl) rfl
      clear hF hB hK
      go_simp
      exact hC _ _ (bel_refl _) fun _ _ => rfl
    · intro a0 w9 K9 hF hB hK hC
      obtain ⟨v64, e64, z64⟩ := dep hK 0 (g := .data) (j := 5) (k := 64) rfl rfl rfl
      have z64 : v64 = .int .i64 sz := z64
      subst z64
      have HB9 := Lib.hid hB
      clear hF hB hK
      go_simp
      refine (refHigh_is3 HF.out _ HK.out).mono ?_
      rintro e w7 ⟨rfl, hbl⟩
      exact hC _ _ hbl fun _ _ => rfl
    · intro a0 w9 K9 hF hB hK hC
      obtain ⟨v63, e63, z63⟩ := dep hK 0 (g := .data) (j := 4) (k := 63) rfl rfl rfl
      have z63 : v63 = .int .u64 (x : Int) := z63
      subst z63
      obtain ⟨v65, e65, z65⟩ := dep hK 1 (g := .data) (j := 6) (k := 65) rfl rfl rfl
      have z65 : v65 = .int .u64 (K : Int) := z65
      subst z65
      have HB9 := Lib.hid hB
      clear hF hB hK
      go_simp
      exact hC _ _ (bel_refl _) fun _ _ => rfl
    case fin =>
      intro a0 w9 hF hB hK
      have b1 := hF.base (k := 1) (v := .int .i64 sz) (by kernel_rfl) rfl
      have b5 := hF.base (k := 5) (v := .pointer (some ⟨w1.heap.size, 0, none⟩)) (by kernel_rfl) rfl
      have b6 := hF.base (k := 6) (v := .int .i64 0) (by kernel_rfl) rfl
      have b7 := hF.base (k := 7) (v := .bool s) (by kernel_rfl) rfl
      have b8 := hF.base (k := 8) (v := .int .u64 (b : Int)) (by kernel_rfl) rfl
      have hsz := hF.size
      have hdf := hF.defers
      clear hF
      obtain ⟨v66, e66, z66⟩ := known hK 7 (k := 66) (by decide) rfl
      have z66 : v66 = .bool false := z66
      subst z66
      clear hK
      obtain ⟨⟨l0⟩, df⟩ := a0
      have hs0 : l0.length = 124 := hsz
      clear hsz
      replace hdf : df = _ := hdf
      subst hdf
      obtain ⟨u, rfl⟩ := lits_124 hs0
      clear hs0
      have q1 : u 1 = _ := Option.some.inj b1
      clear b1
      have q5 : u 5 = _ := Option.some.inj b5
      clear b5
      have q6 : u 6 = _ := Option.some.inj b6
      clear b6
      have q7 : u 7 = _ := Option.some.inj b7
      clear b7
      have q8 : u 8 = _ := Option.some.inj b8
      clear b8
      have q66 : u 66 = _ := Option.some.inj e66
      clear e66
      rw [q1, q5, q6, q7, q8, q66]
      clear q1 q5 q6 q7 q8 q66
      have hbl := hB; clear hB
      replace Ra := Lib.hid (Ra.out.below hbl)
      replace HNa := Lib.hid (HNa.out.below hbl)
      replace Re := Lib.hid (Re.out.below hbl)
      replace HNe := Lib.hid (HNe.out.below hbl)
      replace VX := Lib.hid (VX.out.below hbl VX.out.lt)
      replace HW := Lib.hid (bel_trans HW.out hbl); clear hbl
      clear VX0 VX1 VX2
      have VX0 : w9.cell? ⟨w1.heap.size, 0, none⟩ = some (.bool s) := VX.out.cell 0
      have VX1 : w9.cell? ⟨w1.heap.size, 1, none⟩ = some (.slice Aa (limbs n1).length ca) := VX.out.cell 1
      have VX2 : w9.cell? ⟨w1.heap.size, 2, none⟩ = some (.slice Ae (limbs d1).length ce) := VX.out.cell 2
      refine wpList_nil ?_
      go_wp2_with fail
      refine (refFrac_is3 HF.out b _ HG.out.1 HG.out.2.1 HG.out.2.2.1).mono ?_
      rintro e w4 ⟨rfl, hbl⟩
      replace Ra := Lib.hid (Ra.out.below hbl)
      replace HNa := Lib.hid (HNa.out.below hbl)
      replace Re := Lib.hid (Re.out.below hbl)
      replace HNe := Lib.hid (HNe.out.below hbl)
      replace VX := Lib.hid (VX.out.below hbl VX.out.lt)
      replace HW := Lib.hid (bel_trans HW.out hbl); clear hbl
      clear VX0 VX1 VX2
      have VX0 : w4.cell? ⟨w1.heap.size, 0, none⟩ = some (.bool s) := VX.out.cell 0
      have VX1 : w4.cell? ⟨w1.heap.size, 1, none⟩ = some (.slice Aa (limbs n1).length ca) := VX.out.cell 1
      have VX2 : w4.cell? ⟨w1.heap.size, 2, none⟩ = some (.slice Ae (limbs d1).length ce) := VX.out.cell 2
      go_upto_region 8 with fail
      obtain ⟨wf, hwf⟩ : ∃ wf, wf = w4.alloc (.cells #[.string (dec an_), .string (dec cn_)] 38) := ⟨_, rfl⟩
      rw [← hwf]
      have hbl : Below w4.heap.size w4 wf := by rw [hwf]; exact bel_alloc (bel_refl _) _
      have VF : Blk wf (w4.heap.size) 38 #[.string (dec an_), .string (dec cn_)] := by
        have hz := Blk.new (w4) 38 #[.string (dec an_), .string (dec cn_)]
        rw [hwf]
        exact hz
      clear hwf
      replace Ra := Lib.hid (Ra.out.below hbl)
      replace HNa := Lib.hid (HNa.out.below hbl)
      replace Re := Lib.hid (Re.out.below hbl)
      replace HNe := Lib.hid (HNe.out.below hbl)
      replace VX := Lib.hid (VX.out.below hbl VX.out.lt)
      replace HW := Lib.hid (bel_trans HW.out hbl); clear hbl
      replace VF := Lib.hid VF
      clear VX0 VX1 VX2
      have VX0 : wf.cell? ⟨w1.heap.size, 0, none⟩ = some (.bool s) := VX.out.cell 0
      have VX1 : wf.cell? ⟨w1.heap.size, 1, none⟩ = some (.slice Aa (limbs n1).length ca) := VX.out.cell 1
      have VX2 : wf.cell? ⟨w1.heap.size, 2, none⟩ = some (.slice Ae (limbs d1).length ce) := VX.out.cell 2
      have VF0 : wf.cell? ⟨w4.heap.size, 0, none⟩ = some (.string (dec an_)) := VF.out.cell 0
      have VF1 : wf.cell? ⟨w4.heap.size, 1, none⟩ = some (.string (dec cn_)) := VF.out.cell 1
      go_wp2_with fail
      refine (refCommon_is an_ cn_ _ (by have := HG.out.2.2.2.2.1; omega) (by have := HG.out.2.2.2.2.2.1; omega) HG.out.2.2.2.1).mono ?_
      rintro e w5 ⟨rfl, hbl⟩
      replace Ra := Lib.hid (Ra.out.below hbl)
      replace HNa := Lib.hid (HNa.out.below hbl)
      replace Re := Lib.hid (Re.out.below hbl)
      replace HNe := Lib.hid (HNe.out.below hbl)
      replace VX := Lib.hid (VX.out.below hbl VX.out.lt)
      replace VF := Lib.hid (VF.out.below hbl VF.out.lt)
      replace HW := Lib.hid (bel_trans HW.out hbl); clear hbl
      clear VX0 VX1 VX2 VF0 VF1
      have VX0 : w5.cell? ⟨w1.heap.size, 0, none⟩ = some (.bool s) := VX.out.cell 0
      have VX1 : w5.cell? ⟨w1.heap.size, 1, none⟩ = some (.slice Aa (limbs n1).length ca) := VX.out.cell 1
      have VX2 : w5.cell? ⟨w1.heap.size, 2, none⟩ = some (.slice Ae (limbs d1).length ce) := VX.out.cell 2
      have VF0 : w5.cell? ⟨w4.heap.size, 0, none⟩ = some (.string (dec an_)) := VF.out.cell 0
      have VF1 : w5.cell? ⟨w4.heap.size, 1, none⟩ = some (.string (dec cn_)) := VF.out.cell 1
      go_upto_region 9 with fail
      refine wp_region_typed 12 (TOf [VIs (.pointer (some ⟨w4.heap.size, 0, none⟩)),
          VIs (.string (dec an_)),
          VIs (.string (dec g)),
          VIs (.agg #[.string (dec n1), .string (dec r1)]),
          VIs (.string (dec n1)),
          VIs (.pointer (some ⟨w4.heap.size, 1, none⟩)),
          VIs (.string (dec cn_)),
          VIs (.string (dec g)),
          VIs (.agg #[.string (dec d1), .string (dec r2)]),
          VIs (.string (dec d1)),
          VIs (.string (dec n1)),
          VIs (.string (dec d1))]) (by kernel_rfl) (by kernel_rfl) (by kernel_rfl) (LiftAll.at_ (.cons (VIs.lift _) (.cons (VIs.lift _) (.cons (VIs.lift _) (.cons (VIs.lift _) (.cons (VIs.lift _) (.cons (VIs.lift _) (.cons (VIs.lift _) (.cons (VIs.lift _) (.cons (VIs.lift _) (.cons (VIs.lift _) (.cons (VIs.lift _) (.cons (VIs.lift _) .nil))))))))))))) (steps_all (steps_cons ?_ (steps_cons ?_ (steps_cons ?_ (steps_cons ?_ (steps_cons ?_ (steps_cons ?_ (steps_cons ?_ (steps_cons ?_ (steps_cons ?_ (steps_cons ?_ (steps_cons ?_ (steps_cons ?_ steps_zero))))))))))))) ?fin
      · intro a0 w9 K9 hF hB hK hC
        have b9 := hF.base (k := 9) (v := .pointer (some ⟨w4.heap.size, 0, none⟩)) (by kernel_rfl) rfl
        clear hF hB hK
        go_simp
        exact hC _ _ (bel_refl _) fun _ _ => rfl
      · intro a0 w9 K9 hF hB hK hC
        obtain ⟨v85, e85, z85⟩ := dep hK 0 (g := .data) (j := 0) (k := 85) rfl rfl rfl
        have z85 : v85 = .pointer (some ⟨w4.heap.size, 0, none⟩) := z85
        subst z85
        have x9 : w9.cell? ⟨w4.heap.size, 0, none⟩ = some (.string (dec an_)) := (VF.out.below hB VF.out.lt).cell 0
        clear hF hB hK
        go_simp
        exact hC _ _ (bel_refl _) fun _ _ => rfl
      · intro a0 w9 K9 hF hB hK hC
        have b10 := hF.base (k := 10) (v := .string (dec g)) (by kernel_rfl) rfl
        clear hF hB hK
        go_simp
        exact hC _ _ (bel_refl _) fun _ _ => rfl
      · intro a0 w9 K9 hF hB hK hC
        obtain ⟨v86, e86, z86⟩ := dep hK 0 (g := .data) (j := 1) (k := 86) rfl rfl rfl
        have z86 : v86 = .string (dec an_) := z86
        subst z86
        obtain ⟨v87, e87, z87⟩ := dep hK 1 (g := .data) (j := 2) (k := 87) rfl rfl rfl
        have z87 : v87 = .string (dec g) := z87
        subst z87
        have HB9 := Lib.hid hB
        clear hF hB hK
        go_simp
        refine (refDiv_is an_ g _ (by have := HG.out.2.2.2.2.1; omega) (by have := HG.out.2.2.2.2.2.2.1; omega) HG.out.2.2.2.2.2.2.2.1 HG.out.2.2.2.2.2.2.2.2.1 HG.out.2.2.2.2.2.2.2.2.2.2.1).mono ?_
        rintro e w7 ⟨rfl, hbl⟩
        exact hC _ _ hbl fun _ _ => rfl
      · intro a0 w9 K9 hF hB hK hC
        obtain ⟨v88, e88, z88⟩ := dep hK 0 (g := .data) (j := 3) (k := 88) rfl rfl rfl
        have z88 : v88 = .agg #[.string (dec n1), .string (dec r1)] := z88
        subst z88
        have HB9 := Lib.hid hB
        clear hF hB hK
        go_simp
        exact hC _ _ (bel_refl _) fun _ _ => rfl
      · intro a0 w9 K9 hF hB hK hC
        have b9 := hF.base (k := 9) (v := .pointer (some ⟨w4.heap.size, 0, none⟩)) (by kernel_rfl) rfl
        clear hF hB hK
        go_simp
        exact hC _ _ (bel_refl _) fun _ _ => rfl
      · intro a0 w9 K9 hF hB hK hC
        obtain ⟨v90, e90, z90⟩ := dep hK 0 (g := .data) (j := 5) (k := 90) rfl rfl rfl
        have z90 : v90 = .pointer (some ⟨w4.heap.size, 1, none⟩) := z90
        subst z90
        have x9 : w9.cell? ⟨w4.heap.size, 1, none⟩ = some (.string (dec cn_)) := (VF.out.below hB VF.out.lt).cell 1
        clear hF hB hK
        go_simp
        exact hC _ _ (bel_refl _) fun _ _ => rfl
      · intro a0 w9 K9 hF hB hK hC
        have b10 := hF.base (k := 10) (v := .string (dec g)) (by kernel_rfl) rfl
        clear hF hB hK
        go_simp
        exact hC _ _ (bel_refl _) fun _ _ => rfl
      · intro a0 w9 K9 hF hB hK hC
        obtain ⟨v91, e91, z91⟩ := dep hK 0 (g := .data) (j := 6) (k := 91) rfl rfl rfl
        have z91 : v91 = .string (dec cn_) := z91
        subst z91
        obtain ⟨v92, e92, z92⟩ := dep hK 1 (g := .data) (j := 7) (k := 92) rfl rfl rfl
        have z92 : v92 = .string (dec g) := z92
        subst z92
        have HB9 := Lib.hid hB
        clear hF hB hK
        go_simp
        refine (refDiv_is cn_ g _ (by have := HG.out.2.2.2.2.2.1; omega) (by have := HG.out.2.2.2.2.2.2.1; omega) HG.out.2.2.2.2.2.2.2.1 HG.out.2.2.2.2.2.2.2.2.2.1 HG.out.2.2.2.2.2.2.2.2.2.2.2).mono ?_
        rintro e w7 ⟨rfl, hbl⟩
        exact hC _ _ hbl fun _ _ => rfl
      · intro a0 w9 K9 hF hB hK hC
        obtain ⟨v93, e93, z93⟩ := dep hK 0 (g := .data) (j := 8) (k := 93) rfl rfl rfl
        have z93 : v93 = .agg #[.string (dec d1), .string (dec r2)] := z93
        subst z93
        have HB9 := Lib.hid hB
        clear hF hB hK
        go_simp
        exact hC _ _ (bel_refl _) fun _ _ => rfl
      · intro a0 w9 K9 hF hB hK hC
        obtain ⟨v89, e89, z89⟩ := dep hK 0 (g := .data) (j := 4) (k := 89) rfl rfl rfl
        have z89 : v89 = .string (dec n1) := z89
        subst z89
        clear hF hB hK
        go_simp
        exact hC _ _ (bel_refl _) fun _ _ => rfl
      · intro a0 w9 K9 hF hB hK hC
        obtain ⟨v94, e94, z94⟩ := dep hK 0 (g := .data) (j := 9) (k := 94) rfl rfl rfl
        have z94 : v94 = .string (dec d1) := z94
        subst z94
        clear hF hB hK
        go_simp
        exact hC _ _ (bel_refl _) fun _ _ => rfl
      case fin =>
        intro a0 w9 hF hB hK
        have b1 := hF.base (k := 1) (v := .int .i64 sz) (by kernel_rfl) rfl
        have b5 := hF.base (k := 5) (v := .pointer (some ⟨w1.heap.size, 0, none⟩)) (by kernel_rfl) rfl
        have b6 := hF.base (k := 6) (v := .int .i64 0) (by kernel_rfl) rfl
        have b7 := hF.base (k := 7) (v := .bool s) (by kernel_rfl) rfl
        have b8 := hF.base (k := 8) (v := .int .u64 (b : Int)) (by kernel_rfl) rfl
        have b9 := hF.base (k := 9) (v := .pointer (some ⟨w4.heap.size, 0, none⟩)) (by kernel_rfl) rfl
        have b10 := hF.base (k := 10) (v := .string (dec g)) (by kernel_rfl) rfl
        have hsz := hF.size
        have hdf := hF.defers
        clear hF
        obtain ⟨v11, e11, z11⟩ := known hK 10 (k := 11) (by decide) rfl
        have z11 : v11 = .string (dec n1) := z11
        subst z11
        obtain ⟨v12, e12, z12⟩ := known hK 11 (k := 12) (by decide) rfl
        have z12 : v12 = .string (dec d1) := z12
        subst z12
        clear hK
        obtain ⟨⟨l0⟩, df⟩ := a0
        have hs0 : l0.length = 124 := hsz
        clear hsz
        replace hdf : df = _ := hdf
        subst hdf
        obtain ⟨u, rfl⟩ := lits_124 hs0
        clear hs0
        have q1 : u 1 = _ := Option.some.inj b1
        clear b1
        have q5 : u 5 = _ := Option.some.inj b5
        clear b5
        have q6 : u 6 = _ := Option.some.inj b6
        clear b6
        have q7 : u 7 = _ := Option.some.inj b7
        clear b7
        have q8 : u 8 = _ := Option.some.inj b8
        clear b8
        have q9 : u 9 = _ := Option.some.inj b9
        clear b9
        have q10 : u 10 = _ := Option.some.inj b10
        clear b10
        have q11 : u 11 = _ := Option.some.inj e11
        clear e11
        have q12 : u 12 = _ := Option.some.inj e12
        clear e12
        rw [q1, q5, q6, q7, q8, q9, q10, q11, q12]
        clear q1 q5 q6 q7 q8 q9 q10 q11 q12
        have hbl := hB; clear hB
        replace Ra := Lib.hid (Ra.out.below hbl)
        replace HNa := Lib.hid (HNa.out.below hbl)
        replace Re := Lib.hid (Re.out.below hbl)
        replace HNe := Lib.hid (HNe.out.below hbl)
        replace VX := Lib.hid (VX.out.below hbl VX.out.lt)
        replace VF := Lib.hid (VF.out.below hbl VF.out.lt)
        replace HW := Lib.hid (bel_trans HW.out hbl); clear hbl
        clear VX0 VX1 VX2 VF0 VF1
        have VX0 : w9.cell? ⟨w1.heap.size, 0, none⟩ = some (.bool s) := VX.out.cell 0
        have VX1 : w9.cell? ⟨w1.heap.size, 1, none⟩ = some (.slice Aa (limbs n1).length ca) := VX.out.cell 1
        have VX2 : w9.cell? ⟨w1.heap.size, 2, none⟩ = some (.slice Ae (limbs d1).length ce) := VX.out.cell 2
        have VF0 : w9.cell? ⟨w4.heap.size, 0, none⟩ = some (.string (dec an_)) := VF.out.cell 0
        have VF1 : w9.cell? ⟨w4.heap.size, 1, none⟩ = some (.string (dec cn_)) := VF.out.cell 1
        refine wpList_nil ?_
        clear hfd1 hfd2
        go_wp2_with fail
        refine (refOver_is n1 _ _ HO.out.1).mono ?_
        rintro e w6 ⟨rfl, hbl⟩
        replace Ra := Lib.hid (Ra.out.below hbl)
        replace HNa := Lib.hid (HNa.out.below hbl)
        replace Re := Lib.hid (Re.out.below hbl)
        replace HNe := Lib.hid (HNe.out.below hbl)
        replace VX := Lib.hid (VX.out.below hbl VX.out.lt)
        replace VF := Lib.hid (VF.out.below hbl VF.out.lt)
        replace HW := Lib.hid (bel_trans HW.out hbl); clear hbl
        clear VX0 VX1 VX2 VF0 VF1
        have VX0 : w6.cell? ⟨w1.heap.size, 0, none⟩ = some (.bool s) := VX.out.cell 0
        have VX1 : w6.cell? ⟨w1.heap.size, 1, none⟩ = some (.slice Aa (limbs n1).length ca) := VX.out.cell 1
        have VX2 : w6.cell? ⟨w1.heap.size, 2, none⟩ = some (.slice Ae (limbs d1).length ce) := VX.out.cell 2
        have VF0 : w6.cell? ⟨w4.heap.size, 0, none⟩ = some (.string (dec an_)) := VF.out.cell 0
        have VF1 : w6.cell? ⟨w4.heap.size, 1, none⟩ = some (.string (dec cn_)) := VF.out.cell 1
        go_wp2_with fail
        refine (refOver_is d1 _ _ HO.out.2).mono ?_
        rintro e w7 ⟨rfl, hbl⟩
        replace Ra := Lib.hid (Ra.out.below hbl)
        replace HNa := Lib.hid (HNa.out.below hbl)
        replace Re := Lib.hid (Re.out.below hbl)
        replace HNe := Lib.hid (HNe.out.below hbl)
        replace VX := Lib.hid (VX.out.below hbl VX.out.lt)
        replace VF := Lib.hid (VF.out.below hbl VF.out.lt)
        replace HW := Lib.hid (bel_trans HW.out hbl); clear hbl
        clear VX0 VX1 VX2 VF0 VF1
        have VX0 : w7.cell? ⟨w1.heap.size, 0, none⟩ = some (.bool s) := VX.out.cell 0
        have VX1 : w7.cell? ⟨w1.heap.size, 1, none⟩ = some (.slice Aa (limbs n1).length ca) := VX.out.cell 1
        have VX2 : w7.cell? ⟨w1.heap.size, 2, none⟩ = some (.slice Ae (limbs d1).length ce) := VX.out.cell 2
        have VF0 : w7.cell? ⟨w4.heap.size, 0, none⟩ = some (.string (dec an_)) := VF.out.cell 0
        have VF1 : w7.cell? ⟨w4.heap.size, 1, none⟩ = some (.string (dec cn_)) := VF.out.cell 1
        go_wp2_with fail
        refine (alive3 _).mono ?_
        rintro e w8 ⟨rfl, hbl⟩
        replace Ra := Lib.hid (Ra.out.below hbl)
        replace HNa := Lib.hid (HNa.out.below hbl)
        replace Re := Lib.hid (Re.out.below hbl)
        replace HNe := Lib.hid (HNe.out.below hbl)
        replace VX := Lib.hid (VX.out.below hbl VX.out.lt)
        replace VF := Lib.hid (VF.out.below hbl VF.out.lt)
        replace HW := Lib.hid (bel_trans HW.out hbl); clear hbl
        clear VX0 VX1 VX2 VF0 VF1
        have VX0 : w8.cell? ⟨w1.heap.size, 0, none⟩ = some (.bool s) := VX.out.cell 0
        have VX1 : w8.cell? ⟨w1.heap.size, 1, none⟩ = some (.slice Aa (limbs n1).length ca) := VX.out.cell 1
        have VX2 : w8.cell? ⟨w1.heap.size, 2, none⟩ = some (.slice Ae (limbs d1).length ce) := VX.out.cell 2
        have VF0 : w8.cell? ⟨w4.heap.size, 0, none⟩ = some (.string (dec an_)) := VF.out.cell 0
        have VF1 : w8.cell? ⟨w4.heap.size, 1, none⟩ = some (.string (dec cn_)) := VF.out.cell 1
        go_wp2_with fail
        refine (refIs_true ⟨s, n1, d1⟩ false Aa Ae ca ce _ Ra.out Re.out HT.out.1 HT.out.2.1 HT.out.2.2).mono ?_
        rintro e w9 ⟨rfl, hbl⟩
        replace Ra := Lib.hid (Ra.out.below hbl)
        replace HNa := Lib.hid (HNa.out.below hbl)
        replace Re := Lib.hid (Re.out.below hbl)
        replace HNe := Lib.hid (HNe.out.below hbl)
        replace VX := Lib.hid (VX.out.below hbl VX.out.lt)
        replace VF := Lib.hid (VF.out.below hbl VF.out.lt)
        replace HW := Lib.hid (bel_trans HW.out hbl); clear hbl
        clear VX0 VX1 VX2 VF0 VF1
        have VX0 : w9.cell? ⟨w1.heap.size, 0, none⟩ = some (.bool s) := VX.out.cell 0
        have VX1 : w9.cell? ⟨w1.heap.size, 1, none⟩ = some (.slice Aa (limbs n1).length ca) := VX.out.cell 1
        have VX2 : w9.cell? ⟨w1.heap.size, 2, none⟩ = some (.slice Ae (limbs d1).length ce) := VX.out.cell 2
        have VF0 : w9.cell? ⟨w4.heap.size, 0, none⟩ = some (.string (dec an_)) := VF.out.cell 0
        have VF1 : w9.cell? ⟨w4.heap.size, 1, none⟩ = some (.string (dec cn_)) := VF.out.cell 1
        go_wp2
        go_ret
        exact ⟨rfl, HW.out⟩

end Go.Proofs.Ytmbbdjpnecjleaa
