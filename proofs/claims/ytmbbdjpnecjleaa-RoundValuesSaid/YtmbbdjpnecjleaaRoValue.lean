/-
  Layer 3's Value, walked.
-/
import Derived.Test.YtmbbdjpnecjleaaRoC
import Derived.Test.YtmbbdjpnecjleaaRoB
import Derived.Test.YtmbbdjpnecjleaaRoE
import Derived.Test.YtmbbdjpnecjleaaQB
import Derived.Deep.CutRange
import Derived.Deep.CutBlock
namespace Go.Proofs.Ytmbbdjpnecjleaa
open Go.RowKit

/-- What Value answers. -/
def RetVal (s : Bool) (p q b : Nat) (w : World) (E : Ending) (w' : World) : Prop := if Top ≤ LN p q b ∨ Top ≤ LD p q b then RetQE noQ 2 w E w' else RetQE (valQ s p q b) 0 w E w'
theorem RetVal.over {s : Bool} {p q b : Nat} {w : World} {E : Ending} {w' : World} (h : Top ≤ LN p q b ∨ Top ≤ LD p q b) (hr : RetQE noQ 2 w E w') : RetVal s p q b w E w' := by
  unfold RetVal
  rwa [if_pos h]
theorem RetVal.fit {s : Bool} {p q b : Nat} {w : World} {E : Ending} {w' : World} (h : LN p q b < Top) (h' : LD p q b < Top) (hr : RetQE (valQ s p q b) 0 w E w') : RetVal s p q b w E w' := by
  unfold RetVal
  rwa [if_neg (by omega)]
theorem Fm.wide {sz : Int} {p q t z : Nat} (h : Fm sz p q t) (hz : sz = (z : Int) + 1) : ∃ ew, z = p - 1 + ew ∧ sz - p = (ew : Int) ∧ t + q + 2 + 1 = 2 ^ ew ∧ ew ≤ 11 ∧ z ≤ 63 := by
  rcases h with ⟨rfl, rfl, rfl, rfl⟩ | ⟨rfl, rfl, rfl, rfl⟩
  · exact ⟨8, by omega, by omega, by decide, by decide, by omega⟩
  · exact ⟨11, by omega, by omega, by decide, by decide, by omega⟩
theorem parts {b s Z H W : Nat} (hb : b < Z) (hZ : Z = H * W) (hH : 0 < H) : (b + s * Z) / Z = s ∧ (b + s * Z) % H = b % H ∧ (b + s * Z) / H % W = b / H := by
  have hZ0 : 0 < Z := by omega
  refine ⟨by rw [Nat.add_mul_div_right _ _ hZ0, Nat.div_eq_of_lt hb, Nat.zero_add], ?_, ?_⟩
  · rw [hZ, Nat.mul_left_comm, Nat.add_mul_mod_self_left]
  · rw [hZ, Nat.mul_left_comm, Nat.add_mul_div_left _ _ hH, Nat.add_mul_mod_self_right, Nat.mod_eq_of_lt]
    rw [Nat.div_lt_iff_lt_mul hH, Nat.mul_comm, ← hZ]
    exact hb
theorem b_eq (s : Bool) : (((s.toNat : Nat) : Int) == 1) = s := by cases s <;> rfl
/-- The loop's relation. -/
structure VlRel (w0 wr : World) (m m' k : Nat) (v : Value) : Prop where
  old : Below w0.heap.size w0 wr
  mul : m' * 2 ^ k = m
  num : RdN wr v m'
  k0 : m' = 0 → k = 0
theorem val_k {m m1 k : Nat} (h : m1 * 2 ^ k = m) (h0 : m1 ≠ 0) (hm : m < 2 ^ 61) : k ≤ 60 := by
  have h1 : 2 ^ k ≤ m := by rw [← h]; exact Nat.le_mul_of_pos_left _ (Nat.pos_of_ne_zero h0)
  have h2 := (Nat.pow_lt_pow_iff_right (show 1 < 2 by decide)).1 (Nat.lt_of_le_of_lt h1 hm)
  omega
theorem val_low {p b x m0 H m y0 : Nat} (hm0 : m0 = b % H) (hx : x = b / H) (hH : H = 2 ^ (p - 1)) (hm : m = mant p b) (hy : y0 = expo p b) (h : x = 0) : m = m0 ∧ y0 = 0 := by
  unfold mant at hm
  unfold expo at hy
  rw [← hH, ← hx, if_pos h] at hm
  rw [← hH, ← hx] at hy
  have h1 := Nat.div_add_mod b H
  rw [← hx, h, Nat.mul_zero] at h1
  omega
theorem val_high {p b x m0 H m y0 : Nat} (hm0 : m0 = b % H) (hx : x = b / H) (hH : H = 2 ^ (p - 1)) (hm : m = mant p b) (hy : y0 = expo p b) (h : x ≠ 0) : m = m0 + H ∧ y0 + 1 = x := by
  unfold mant at hm
  unfold expo at hy
  rw [← hH, ← hx, if_neg h] at hm
  rw [← hH, ← hx] at hy
  omega
theorem make_val {s : Bool} {p q b n d : Nat} (hn : n = LN p q b) (hd : d = LD p q b) (h : b = 0 → s = false) : redQ s n d = valQ s p q b := by
  subst hn hd
  exact redQ_L h
theorem of_one (w : World) : Calls Try.prog 75 #[.int .u64 1] w (RetN 1 w) := of_any 1 w (by decide)
theorem shift_fit (A : Option Addr) (cap a m : Nat) (w : World) (h : RdL w A (limbs a)) (ha : a < Top) {X : Nat} (hX : a * 2 ^ m = X) (hf : X < Top) :
    Calls Try.prog 76 #[.slice A (limbs a).length cap, .int .i64 m] w (RetNE X 0 w) := by
  have h1 := shift_up A cap a m w h ha
  rwa [hX, (fit_small hf).1, (fit_small hf).2] at h1
theorem shift_ovr (A : Option Addr) (cap a m : Nat) (w : World) (h : RdL w A (limbs a)) (ha : a < Top) {X : Nat} (hX : a * 2 ^ m = X) (hf : ¬ X < Top) :
    Calls Try.prog 76 #[.slice A (limbs a).length cap, .int .i64 m] w (RetNE 0 2 w) := by
  have h1 := shift_up A cap a m w h ha
  rwa [hX, (fit_over hf).1, (fit_over hf).2] at h1
set_option maxRecDepth 100000 in
set_option maxHeartbeats 1000000 in
theorem rvalue_size (N : Nat) (sz : Int) (w : World) (h32 : sz ≠ 32) (h64 : sz ≠ 64) :
    Calls Try.prog 47 #[.int .u64 (N : Int), .int .i64 sz] w (RetQE noQ 1 w) := by
  have HZ := Lib.hid (And.intro h32 h64); clear h32 h64
  obtain ⟨wa, hwa⟩ : ∃ wa, wa = w.alloc (.cells #[.bool false, .slice none 0 0, .slice none 0 0] 25) := ⟨_, rfl⟩
  have hbl : Below w.heap.size w wa := by rw [hwa]; exact bel_alloc (bel_refl _) _
  have RES : Blk wa (w.heap.size) 25 #[.bool false, .slice none 0 0, .slice none 0 0] := by
    have hz := Blk.new (w) 25 #[.bool false, .slice none 0 0, .slice none 0 0]
    rw [hwa]
    exact hz
  have HW := Lib.hid hbl; clear hbl
  replace RES := Lib.hid RES
  go_enter Try.func47, Try.ntmps47
  go_wp2_with fail
  rw [← hwa]
  clear hwa
  refine (forms_any _).mono ?_
  rintro e w1 ⟨rfl, hmap, hbl⟩
  replace RES := Lib.hid (RES.out.below hbl RES.out.lt)
  replace HW := Lib.hid (bel_trans HW.out hbl); clear hbl
  have hlk := look_none hmap HZ.out.1 HZ.out.2
  clear hmap
  go_upto_region 3 with fail
  obtain ⟨wm, hwm⟩ : ∃ wm, wm = w1.alloc (.cells #[.int .i64 0, .int .i64 0, .int .i64 0] 74) := ⟨_, rfl⟩
  rw [← hwm]
  have hbl : Below w1.heap.size w1 wm := by rw [hwm]; exact bel_alloc (bel_refl _) _
  have CF : Blk wm (w1.heap.size) 74 #[.int .i64 0, .int .i64 0, .int .i64 0] := by
    have hz := Blk.new (w1) 74 #[.int .i64 0, .int .i64 0, .int .i64 0]
    rw [hwm]
    exact hz
  clear hwm
  replace RES := Lib.hid (RES.out.below hbl RES.out.lt)
  replace HW := Lib.hid (bel_trans HW.out hbl); clear hbl
  replace CF := Lib.hid CF
  have d0 : wm.cell? ⟨w.heap.size, 0, none⟩ = some (.bool false) := RES.out.cell 0
  have f0 : wm.frozen? ⟨w.heap.size, 0, none⟩ = false := RES.out.frozen 0
  have d1 : wm.cell? ⟨w.heap.size, 1, none⟩ = some (.slice none 0 0) := RES.out.cell 1
  have f1 : wm.frozen? ⟨w.heap.size, 1, none⟩ = false := RES.out.frozen 1
  have d2 : wm.cell? ⟨w.heap.size, 2, none⟩ = some (.slice none 0 0) := RES.out.cell 2
  have f2 : wm.frozen? ⟨w.heap.size, 2, none⟩ = false := RES.out.frozen 2
  have D := Lib.hid (And.intro (RES.out.put3 (.bool false) (.slice none 0 0) (.slice none 0 0)) (bel_set3 HW.out (Nat.le_refl _) (.bool false) (.slice none 0 0) (.slice none 0 0)))
  have N0 := Lib.hid (RdN.set3 RES.out (RdN.none0 _) (.bool false) (.slice none 0 0) (.slice none 0 0))
  have N1 := Lib.hid (RdN.set3 RES.out (RdN.none0 _) (.bool false) (.slice none 0 0) (.slice none 0 0))
  go_wp2
  refine bodyPost_ret (v := .tuple #[.agg #[.bool false, .slice none 0 0, .slice none 0 0], .int .i64 1]) ?hr1 rfl ?hR1
  case hR1 => exact ⟨_, _, rfl, N0.out, N1.out, D.out.2⟩
  case hr1 => exact results_row_tmp rfl _ _ (w.heap.size) 25 _ (0, 0) _ _ rfl rfl D.out.1 Try.underlying25 rfl (by kernel_rfl)

set_option maxRecDepth 100000 in
set_option maxHeartbeats 1000000 in
theorem rvalue_minus_f (N : Nat) (sz : Int) (p q t : Nat) (w : World) (hf : Fm sz p q t) (z1 : (sz == 32) = false) (hN : N = 2 ^ (sz.toNat - 1)) :
    Calls Try.prog 47 #[.int .u64 (N : Int), .int .i64 sz] w (RetQE noQ 1 w) := by
  obtain ⟨b, s, hb0, hs⟩ : ∃ (b : Nat) (s : Bool), b = 0 ∧ s = true := ⟨0, true, rfl, rfl⟩
  obtain ⟨op1, op2, oq0, oq, ot, os1, os2⟩ := hf.ok
  obtain ⟨z, hz3⟩ : ∃ z : Nat, sz = (z : Int) + 1 := ⟨sz.toNat - 1, by omega⟩
  obtain ⟨ew, hw1, hw2, hw3, hw4, hw5⟩ := hf.wide hz3
  have HF := Lib.hid hf; clear hf
  obtain ⟨Z, hZ⟩ : ∃ Z, Z = 2 ^ z := ⟨_, rfl⟩
  obtain ⟨H, hH⟩ : ∃ H, H = 2 ^ (p - 1) := ⟨_, rfl⟩
  obtain ⟨X, hX⟩ : ∃ X, X = 2 ^ ew := ⟨_, rfl⟩
  have hZH : Z = H * X := by rw [hZ, hH, hX, ← Nat.pow_add, hw1]
  have hH0 : 0 < H := by rw [hH]; exact Nat.pow_pos (by decide)
  have hH1 : H ≤ 4503599627370496 := by rw [hH]; exact Nat.pow_le_pow_right (n := 2) (j := 52) (by decide) (by omega)
  have hX1 : X ≤ 2048 := by rw [hX]; exact Nat.pow_le_pow_right (n := 2) (j := 11) (by decide) hw4
  have hZ1 : Z ≤ 9223372036854775808 := by rw [hZ]; exact Nat.pow_le_pow_right (n := 2) (j := 63) (by decide) hw5
  have hz9 : sz.toNat - 1 = z := by omega
  rw [hz9, ← hZ] at hN
  have g1 : IntKind.i64.wrap (sz - 1) = (z : Int) := by rw [IntKind.wrap_i64]; omega
  have g2 : min z 64 = z := by omega
  have g3 : (2 : Int) ^ z = (Z : Int) := by rw [hZ, Int.natCast_pow]; rfl
  have g4 : IntKind.u64.wrap (Z : Int) = (Z : Int) := by rw [IntKind.wrap_u64]; omega
  have g5 : ((N : Int) == (Z : Int)) = true := by rw [hN]; simp
  have g6 : (N : Int) = (Z : Int) := by rw [hN]
  clear hb0 hs hN hZH hH0 hH1 hX1 hZ1 hz9 hw1 hw2 hw3 hX hZ hH hz3 g6
  obtain ⟨wa, hwa⟩ : ∃ wa, wa = w.alloc (.cells #[.bool false, .slice none 0 0, .slice none 0 0] 25) := ⟨_, rfl⟩
  have hbl : Below w.heap.size w wa := by rw [hwa]; exact bel_alloc (bel_refl _) _
  have RES : Blk wa (w.heap.size) 25 #[.bool false, .slice none 0 0, .slice none 0 0] := by
    have hz := Blk.new (w) 25 #[.bool false, .slice none 0 0, .slice none 0 0]
    rw [hwa]
    exact hz
  have HW := Lib.hid hbl; clear hbl
  replace RES := Lib.hid RES
  go_enter Try.func47, Try.ntmps47
  go_wp2_with fail
  rw [← hwa]
  clear hwa
  refine (forms_any _).mono ?_
  rintro e w1 ⟨rfl, hmap, hbl⟩
  replace RES := Lib.hid (RES.out.below hbl RES.out.lt)
  replace HW := Lib.hid (bel_trans HW.out hbl); clear hbl
  have hlk := look_form hmap HF.out
  clear hmap
  go_upto_region 2 with fail
  obtain ⟨wm, hwm⟩ : ∃ wm, wm = w1.alloc (.cells #[.int .i64 (p : Int), .int .i64 (q : Int), .int .i64 (t : Int)] 74) := ⟨_, rfl⟩
  rw [← hwm]
  have hbl : Below w1.heap.size w1 wm := by rw [hwm]; exact bel_alloc (bel_refl _) _
  have CF : Blk wm (w1.heap.size) 74 #[.int .i64 (p : Int), .int .i64 (q : Int), .int .i64 (t : Int)] := by
    have hz := Blk.new (w1) 74 #[.int .i64 (p : Int), .int .i64 (q : Int), .int .i64 (t : Int)]
    rw [hwm]
    exact hz
  clear hwm
  replace RES := Lib.hid (RES.out.below hbl RES.out.lt)
  replace HW := Lib.hid (bel_trans HW.out hbl); clear hbl
  replace CF := Lib.hid CF
  have CF0 : wm.cell? ⟨w1.heap.size, 0, none⟩ = some (.int .i64 (p : Int)) := CF.out.cell 0
  have CF1 : wm.cell? ⟨w1.heap.size, 1, none⟩ = some (.int .i64 (q : Int)) := CF.out.cell 1
  have CF2 : wm.cell? ⟨w1.heap.size, 2, none⟩ = some (.int .i64 (t : Int)) := CF.out.cell 2
  have d0 : wm.cell? ⟨w.heap.size, 0, none⟩ = some (.bool false) := RES.out.cell 0
  have f0 : wm.frozen? ⟨w.heap.size, 0, none⟩ = false := RES.out.frozen 0
  have d1 : wm.cell? ⟨w.heap.size, 1, none⟩ = some (.slice none 0 0) := RES.out.cell 1
  have f1 : wm.frozen? ⟨w.heap.size, 1, none⟩ = false := RES.out.frozen 1
  have d2 : wm.cell? ⟨w.heap.size, 2, none⟩ = some (.slice none 0 0) := RES.out.cell 2
  have f2 : wm.frozen? ⟨w.heap.size, 2, none⟩ = false := RES.out.frozen 2
  have D := Lib.hid (And.intro (RES.out.put3 (.bool false) (.slice none 0 0) (.slice none 0 0)) (bel_set3 HW.out (Nat.le_refl _) (.bool false) (.slice none 0 0) (.slice none 0 0)))
  have N0 := Lib.hid (RdN.set3 RES.out (RdN.none0 _) (.bool false) (.slice none 0 0) (.slice none 0 0))
  have N1 := Lib.hid (RdN.set3 RES.out (RdN.none0 _) (.bool false) (.slice none 0 0) (.slice none 0 0))
  go_wp2
  refine bodyPost_ret (v := .tuple #[.agg #[.bool false, .slice none 0 0, .slice none 0 0], .int .i64 1]) ?hr2 rfl ?hR2
  case hR2 => exact ⟨_, _, rfl, N0.out, N1.out, D.out.2⟩
  case hr2 => exact results_row_tmp rfl _ _ (w.heap.size) 25 _ (0, 0) _ _ rfl rfl D.out.1 Try.underlying25 rfl (by kernel_rfl)

set_option maxRecDepth 100000 in
set_option maxHeartbeats 1000000 in
theorem rvalue_ones_f (N : Nat) (sz : Int) (p q t b : Nat) (s : Bool) (w : World) (hf : Fm sz p q t) (z1 : (sz == 32) = false) (hb : b < 2 ^ (sz.toNat - 1)) (hs : b = 0 → s = false) (h1 : b / 2 ^ (p - 1) = t + q + 2) (hN : N = b + s.toNat * 2 ^ (sz.toNat - 1)) :
    Calls Try.prog 47 #[.int .u64 (N : Int), .int .i64 sz] w (RetQE noQ 1 w) := by
  obtain ⟨op1, op2, oq0, oq, ot, os1, os2⟩ := hf.ok
  obtain ⟨z, hz3⟩ : ∃ z : Nat, sz = (z : Int) + 1 := ⟨sz.toNat - 1, by omega⟩
  obtain ⟨ew, hw1, hw2, hw3, hw4, hw5⟩ := hf.wide hz3
  have HF := Lib.hid hf; clear hf
  obtain ⟨Z, hZ⟩ : ∃ Z, Z = 2 ^ z := ⟨_, rfl⟩
  obtain ⟨H, hH⟩ : ∃ H, H = 2 ^ (p - 1) := ⟨_, rfl⟩
  obtain ⟨X, hX⟩ : ∃ X, X = 2 ^ ew := ⟨_, rfl⟩
  have hZH : Z = H * X := by rw [hZ, hH, hX, ← Nat.pow_add, hw1]
  have hH0 : 0 < H := by rw [hH]; exact Nat.pow_pos (by decide)
  have hH1 : H ≤ 4503599627370496 := by rw [hH]; exact Nat.pow_le_pow_right (n := 2) (j := 52) (by decide) (by omega)
  have hX1 : X ≤ 2048 := by rw [hX]; exact Nat.pow_le_pow_right (n := 2) (j := 11) (by decide) hw4
  have hZ1 : Z ≤ 9223372036854775808 := by rw [hZ]; exact Nat.pow_le_pow_right (n := 2) (j := 63) (by decide) hw5
  have hz9 : sz.toNat - 1 = z := by omega
  rw [hz9, ← hZ] at hN
  have g1 : IntKind.i64.wrap (sz - 1) = (z : Int) := by rw [IntKind.wrap_i64]; omega
  have g2 : min z 64 = z := by omega
  have g3 : (2 : Int) ^ z = (Z : Int) := by rw [hZ, Int.natCast_pow]; rfl
  have g4 : IntKind.u64.wrap (Z : Int) = (Z : Int) := by rw [IntKind.wrap_u64]; omega
  have hbZ : b < Z := by rw [hz9, ← hZ] at hb; exact hb
  have hNZ : N ≠ Z := by
    cases s
    · rw [hN]; simp; omega
    · have : b ≠ 0 := fun h => by have := hs h; cases this
      rw [hN]; simp; omega
  have hNZ2 : N < 18446744073709551616 := by
    rw [hN]
    cases s
    · simp; omega
    · simp; omega
  have g5 : ((N : Int) == (Z : Int)) = false := by simp only [beq_eq_false_iff_ne, ne_eq]; omega
  have g6 : ¬ (N : Int) = (Z : Int) := by omega
  obtain ⟨r1, r2, r3⟩ := parts (s := s.toNat) hbZ hZH hH0
  rw [← hN] at r1 r2 r3
  obtain ⟨x, hx⟩ : ∃ x, x = b / H := ⟨_, rfl⟩
  obtain ⟨m0, hm0⟩ : ∃ m, m = b % H := ⟨_, rfl⟩
  rw [← hm0] at r2
  rw [← hx] at r3
  have hm1 : m0 < H := by rw [hm0]; exact Nat.mod_lt _ hH0
  have hxX : x < X := by rw [hx, Nat.div_lt_iff_lt_mul hH0, Nat.mul_comm, ← hZH]; exact hbZ
  have g7 : (N : Int) / (Z : Int) = ((s.toNat : Nat) : Int) := by rw [← r1]; exact (Int.natCast_ediv N Z).symm
  have g8 : (((s.toNat : Nat) : Int) == 1) = s := b_eq s
  obtain ⟨J, hJ⟩ : ∃ J, J = N / H := ⟨_, rfl⟩
  rw [← hJ] at r3
  obtain ⟨H1, hH2⟩ : ∃ H1, H1 = H - 1 := ⟨_, rfl⟩
  obtain ⟨K, hK⟩ : ∃ K, K = t + q + 2 := ⟨_, rfl⟩
  have hKX : X = K + 1 := by rw [hK, hX]; omega
  have hJN : J ≤ N := by rw [hJ]; exact Nat.div_le_self _ _
  have k1 : IntKind.i64.wrap ((p : Int) - 1) = ((p - 1 : Nat) : Int) := by rw [IntKind.wrap_i64]; omega
  have k2 : min (p - 1) 64 = p - 1 := by omega
  have k3 : (2 : Int) ^ (p - 1) = (H : Int) := by rw [hH, Int.natCast_pow]; rfl
  have k4 : IntKind.u64.wrap (H : Int) = (H : Int) := by rw [IntKind.wrap_u64]; omega
  have k5 : IntKind.u64.wrap ((H : Int) - 1) = (H1 : Int) := by rw [IntKind.wrap_u64]; omega
  have k6 : bits BinOp.and IntKind.u64 (N : Int) (H1 : Int) = (m0 : Int) := by rw [u64_and_nat _ _ hNZ2 (by omega), hH2, hH, Nat.and_two_pow_sub_one_eq_mod, ← hH, r2]
  have k7 : (N : Int) / (H : Int) = (J : Int) := by rw [hJ]; exact (Int.natCast_ediv N H).symm
  have k8 : IntKind.i64.wrap (sz - (p : Int)) = (ew : Int) := by rw [IntKind.wrap_i64]; omega
  have k9 : min ew 64 = ew := by omega
  have k10 : (2 : Int) ^ ew = (X : Int) := by rw [hX, Int.natCast_pow]; rfl
  have k11 : IntKind.u64.wrap (X : Int) = (X : Int) := by rw [IntKind.wrap_u64]; omega
  have k12 : IntKind.u64.wrap ((X : Int) - 1) = (K : Int) := by rw [IntKind.wrap_u64]; omega
  have k13 : bits BinOp.and IntKind.u64 (J : Int) (K : Int) = (x : Int) := by rw [u64_and_nat _ _ (by omega) (by omega), show K = 2 ^ ew - 1 by omega, Nat.and_two_pow_sub_one_eq_mod, ← hX, r3]
  have k14 : IntKind.i64.wrap (x : Int) = (x : Int) := by rw [IntKind.wrap_i64]; omega
  have k15 : IntKind.i64.wrap (X : Int) = (X : Int) := by rw [IntKind.wrap_i64]; omega
  have k16 : IntKind.i64.wrap ((X : Int) - 1) = (K : Int) := by rw [IntKind.wrap_i64]; omega
  have k17 : IntKind.u64.wrap (x : Int) = (x : Int) := by rw [IntKind.wrap_u64]; omega
  have HX9 := Lib.hid hX1
  have HM := Lib.hid (And.intro hm0 (And.intro hx (And.intro hH (And.intro hm1 (And.intro hxX (And.intro hKX hK)))))); clear hm0 hx hm1 hxX hKX hK
  clear r1 r2 r3 hJ hJN hNZ hNZ2 hbZ hN hZH hH0 hX1 hZ1 hz9 hw1 hw2 hw3 hX hH2 hZ hH hz3
  obtain ⟨wa, hwa⟩ : ∃ wa, wa = w.alloc (.cells #[.bool false, .slice none 0 0, .slice none 0 0] 25) := ⟨_, rfl⟩
  have hbl : Below w.heap.size w wa := by rw [hwa]; exact bel_alloc (bel_refl _) _
  have RES : Blk wa (w.heap.size) 25 #[.bool false, .slice none 0 0, .slice none 0 0] := by
    have hz := Blk.new (w) 25 #[.bool false, .slice none 0 0, .slice none 0 0]
    rw [hwa]
    exact hz
  have HW := Lib.hid hbl; clear hbl
  replace RES := Lib.hid RES
  go_enter Try.func47, Try.ntmps47
  go_wp2_with fail
  rw [← hwa]
  clear hwa
  refine (forms_any _).mono ?_
  rintro e w1 ⟨rfl, hmap, hbl⟩
  replace RES := Lib.hid (RES.out.below hbl RES.out.lt)
  replace HW := Lib.hid (bel_trans HW.out hbl); clear hbl
  have hlk := look_form hmap HF.out
  clear hmap
  go_upto_region 2 with fail
  obtain ⟨wm, hwm⟩ : ∃ wm, wm = w1.alloc (.cells #[.int .i64 (p : Int), .int .i64 (q : Int), .int .i64 (t : Int)] 74) := ⟨_, rfl⟩
  rw [← hwm]
  have hbl : Below w1.heap.size w1 wm := by rw [hwm]; exact bel_alloc (bel_refl _) _
  have CF : Blk wm (w1.heap.size) 74 #[.int .i64 (p : Int), .int .i64 (q : Int), .int .i64 (t : Int)] := by
    have hz := Blk.new (w1) 74 #[.int .i64 (p : Int), .int .i64 (q : Int), .int .i64 (t : Int)]
    rw [hwm]
    exact hz
  clear hwm
  replace RES := Lib.hid (RES.out.below hbl RES.out.lt)
  replace HW := Lib.hid (bel_trans HW.out hbl); clear hbl
  replace CF := Lib.hid CF
  have CF0 : wm.cell? ⟨w1.heap.size, 0, none⟩ = some (.int .i64 (p : Int)) := CF.out.cell 0
  have CF1 : wm.cell? ⟨w1.heap.size, 1, none⟩ = some (.int .i64 (q : Int)) := CF.out.cell 1
  have CF2 : wm.cell? ⟨w1.heap.size, 2, none⟩ = some (.int .i64 (t : Int)) := CF.out.cell 2
  go_upto_region 5 with fail
  refine wp_region_typed 22 (TOf [VIs (.int .u64 (N : Int)),
      VIs (.pointer (some ⟨w1.heap.size, 0, none⟩)),
      VIs (.int .i64 (p : Int)),
      VIs (.int .i64 ((p - 1 : Nat) : Int)),
      VIs (.int .u64 (H : Int)),
      VIs (.int .u64 (H1 : Int)),
      VIs (.int .u64 (m0 : Int)),
      VIs (.int .u64 (N : Int)),
      VIs (.pointer (some ⟨w1.heap.size, 0, none⟩)),
      VIs (.int .i64 (p : Int)),
      VIs (.int .i64 ((p - 1 : Nat) : Int)),
      VIs (.int .u64 (J : Int)),
      VIs (.int .i64 sz),
      VIs (.pointer (some ⟨w1.heap.size, 0, none⟩)),
      VIs (.int .i64 (p : Int)),
      VIs (.int .i64 (ew : Int)),
      VIs (.int .u64 (X : Int)),
      VIs (.int .u64 (K : Int)),
      VIs (.int .u64 (x : Int)),
      VIs (.int .i64 (x : Int)),
      VIs (.int .u64 (m0 : Int)),
      VIs (.int .i64 (x : Int))]) (by kernel_rfl) (by kernel_rfl) (by kernel_rfl) (LiftAll.at_ (.cons (VIs.lift _) (.cons (VIs.lift _) (.cons (VIs.lift _) (.cons (VIs.lift _) (.cons (VIs.lift _) (.cons (VIs.lift _) (.cons (VIs.lift _) (.cons (VIs.lift _) (.cons (VIs.lift _) (.cons (VIs.lift _) (.cons (VIs.lift _) (.cons (VIs.lift _) (.cons (VIs.lift _) (.cons (VIs.lift _) (.cons (VIs.lift _) (.cons (VIs.lift _) (.cons (VIs.lift _) (.cons (VIs.lift _) (.cons (VIs.lift _) (.cons (VIs.lift _) (.cons (VIs.lift _) (.cons (VIs.lift _) .nil))))))))))))))))))))))) (steps_all (steps_cons ?_ (steps_cons ?_ (steps_cons ?_ (steps_cons ?_ (steps_cons ?_ (steps_cons ?_ (steps_cons ?_ (steps_cons ?_ (steps_cons ?_ (steps_cons ?_ (steps_cons ?_ (steps_cons ?_ (steps_cons ?_ (steps_cons ?_ (steps_cons ?_ (steps_cons ?_ (steps_cons ?_ (steps_cons ?_ (steps_cons ?_ (steps_cons ?_ (steps_cons ?_ (steps_cons ?_ steps_zero))))))))))))))))))))))) ?fin
  · intro a0 w9 K9 hF hB hK hC
    have b0 := hF.base (k := 0) (v := .int .u64 (N : Int)) (by kernel_rfl) rfl
    clear hF hB hK
    go_simp
    exact hC _ _ (bel_refl _) fun _ _ => rfl
  · intro a0 w9 K9 hF hB hK hC
    have b6 := hF.base (k := 6) (v := .pointer (some ⟨w1.heap.size, 0, none⟩)) (by kernel_rfl) rfl
    clear hF hB hK
    go_simp
    exact hC _ _ (bel_refl _) fun _ _ => rfl
  · intro a0 w9 K9 hF hB hK hC
    obtain ⟨v45, e45, z45⟩ := dep hK 0 (g := .data) (j := 1) (k := 45) rfl rfl rfl
    have z45 : v45 = .pointer (some ⟨w1.heap.size, 0, none⟩) := z45
    subst z45
    have x9 : w9.cell? ⟨w1.heap.size, 0, none⟩ = some (.int .i64 (p : Int)) := (CF.out.below hB CF.out.lt).cell 0
    clear hF hB hK
    go_simp
    exact hC _ _ (bel_refl _) fun _ _ => rfl
  · intro a0 w9 K9 hF hB hK hC
    obtain ⟨v46, e46, z46⟩ := dep hK 0 (g := .data) (j := 2) (k := 46) rfl rfl rfl
    have z46 : v46 = .int .i64 (p : Int) := z46
    subst z46
    have HB9 := Lib.hid hB
    clear hF hB hK
    go_simp
    exact hC _ _ (bel_refl _) fun _ _ => rfl
  · intro a0 w9 K9 hF hB hK hC
    obtain ⟨v47, e47, z47⟩ := dep hK 0 (g := .data) (j := 3) (k := 47) rfl rfl rfl
    have z47 : v47 = .int .i64 ((p - 1 : Nat) : Int) := z47
    subst z47
    have HB9 := Lib.hid hB
    clear hF hB hK
    go_simp
    exact hC _ _ (bel_refl _) fun _ _ => rfl
  · intro a0 w9 K9 hF hB hK hC
    obtain ⟨v48, e48, z48⟩ := dep hK 0 (g := .data) (j := 4) (k := 48) rfl rfl rfl
    have z48 : v48 = .int .u64 (H : Int) := z48
    subst z48
    have HB9 := Lib.hid hB
    clear hF hB hK
    go_simp
    exact hC _ _ (bel_refl _) fun _ _ => rfl
  · intro a0 w9 K9 hF hB hK hC
    obtain ⟨v44, e44, z44⟩ := dep hK 0 (g := .data) (j := 0) (k := 44) rfl rfl rfl
    have z44 : v44 = .int .u64 (N : Int) := z44
    subst z44
    obtain ⟨v49, e49, z49⟩ := dep hK 1 (g := .data) (j := 5) (k := 49) rfl rfl rfl
    have z49 : v49 = .int .u64 (H1 : Int) := z49
    subst z49
    have HB9 := Lib.hid hB
    clear hF hB hK
    go_simp
    exact hC _ _ (bel_refl _) fun _ _ => rfl
  · intro a0 w9 K9 hF hB hK hC
    have b0 := hF.base (k := 0) (v := .int .u64 (N : Int)) (by kernel_rfl) rfl
    clear hF hB hK
    go_simp
    exact hC _ _ (bel_refl _) fun _ _ => rfl
  · intro a0 w9 K9 hF hB hK hC
    have b6 := hF.base (k := 6) (v := .pointer (some ⟨w1.heap.size, 0, none⟩)) (by kernel_rfl) rfl
    clear hF hB hK
    go_simp
    exact hC _ _ (bel_refl _) fun _ _ => rfl
  · intro a0 w9 K9 hF hB hK hC
    obtain ⟨v52, e52, z52⟩ := dep hK 0 (g := .data) (j := 8) (k := 52) rfl rfl rfl
    have z52 : v52 = .pointer (some ⟨w1.heap.size, 0, none⟩) := z52
    subst z52
    have x9 : w9.cell? ⟨w1.heap.size, 0, none⟩ = some (.int .i64 (p : Int)) := (CF.out.below hB CF.out.lt).cell 0
    clear hF hB hK
    go_simp
    exact hC _ _ (bel_refl _) fun _ _ => rfl
  · intro a0 w9 K9 hF hB hK hC
    obtain ⟨v53, e53, z53⟩ := dep hK 0 (g := .data) (j := 9) (k := 53) rfl rfl rfl
    have z53 : v53 = .int .i64 (p : Int) := z53
    subst z53
    have HB9 := Lib.hid hB
    clear hF hB hK
    go_simp
    exact hC _ _ (bel_refl _) fun _ _ => rfl
  · intro a0 w9 K9 hF hB hK hC
    obtain ⟨v51, e51, z51⟩ := dep hK 0 (g := .data) (j := 7) (k := 51) rfl rfl rfl
    have z51 : v51 = .int .u64 (N : Int) := z51
    subst z51
    obtain ⟨v54, e54, z54⟩ := dep hK 1 (g := .data) (j := 10) (k := 54) rfl rfl rfl
    have z54 : v54 = .int .i64 ((p - 1 : Nat) : Int) := z54
    subst z54
    have HB9 := Lib.hid hB
    clear hF hB hK
    go_simp
    exact hC _ _ (bel_refl _) fun _ _ => rfl
  · intro a0 w9 K9 hF hB hK hC
    have b1 := hF.base (k := 1) (v := .int .i64 sz) (by kernel_rfl) rfl
    clear hF hB hK
    go_simp
    exact hC _ _ (bel_refl _) fun _ _ => rfl
  · intro a0 w9 K9 hF hB hK hC
    have b6 := hF.base (k := 6) (v := .pointer (some ⟨w1.heap.size, 0, none⟩)) (by kernel_rfl) rfl
    clear hF hB hK
    go_simp
    exact hC _ _ (bel_refl _) fun _ _ => rfl
  · intro a0 w9 K9 hF hB hK hC
    obtain ⟨v57, e57, z57⟩ := dep hK 0 (g := .data) (j := 13) (k := 57) rfl rfl rfl
    have z57 : v57 = .pointer (some ⟨w1.heap.size, 0, none⟩) := z57
    subst z57
    have x9 : w9.cell? ⟨w1.heap.size, 0, none⟩ = some (.int .i64 (p : Int)) := (CF.out.below hB CF.out.lt).cell 0
    clear hF hB hK
    go_simp
    exact hC _ _ (bel_refl _) fun _ _ => rfl
  · intro a0 w9 K9 hF hB hK hC
    obtain ⟨v56, e56, z56⟩ := dep hK 0 (g := .data) (j := 12) (k := 56) rfl rfl rfl
    have z56 : v56 = .int .i64 sz := z56
    subst z56
    obtain ⟨v58, e58, z58⟩ := dep hK 1 (g := .data) (j := 14) (k := 58) rfl rfl rfl
    have z58 : v58 = .int .i64 (p : Int) := z58
    subst z58
    have HB9 := Lib.hid hB
    clear hF hB hK
    go_simp
    exact hC _ _ (bel_refl _) fun _ _ => rfl
  · intro a0 w9 K9 hF hB hK hC
    obtain ⟨v59, e59, z59⟩ := dep hK 0 (g := .data) (j := 15) (k := 59) rfl rfl rfl
    have z59 : v59 = .int .i64 (ew : Int) := z59
    subst z59
    have HB9 := Lib.hid hB
    clear hF hB hK
    go_simp
    exact hC _ _ (bel_refl _) fun _ _ => rfl
  · intro a0 w9 K9 hF hB hK hC
    obtain ⟨v60, e60, z60⟩ := dep hK 0 (g := .data) (j := 16) (k := 60) rfl rfl rfl
    have z60 : v60 = .int .u64 (X : Int) := z60
    subst z60
    have HB9 := Lib.hid hB
    clear hF hB hK
    go_simp
    exact hC _ _ (bel_refl _) fun _ _ => rfl
  · intro a0 w9 K9 hF hB hK hC
    obtain ⟨v55, e55, z55⟩ := dep hK 0 (g := .data) (j := 11) (k := 55) rfl rfl rfl
    have z55 : v55 = .int .u64 (J : Int) := z55
    subst z55
    obtain ⟨v61, e61, z61⟩ := dep hK 1 (g := .data) (j := 17) (k := 61) rfl rfl rfl
    have z61 : v61 = .int .u64 (K : Int) := z61
    subst z61
    have HB9 := Lib.hid hB
    clear hF hB hK
    go_simp
    exact hC _ _ (bel_refl _) fun _ _ => rfl
  · intro a0 w9 K9 hF hB hK hC
    obtain ⟨v62, e62, z62⟩ := dep hK 0 (g := .data) (j := 18) (k := 62) rfl rfl rfl
    have z62 : v62 = .int .u64 (x : Int) := z62
    subst z62
    have HB9 := Lib.hid hB
    clear hF hB hK
    go_simp
    exact hC _ _ (bel_refl _) fun _ _ => rfl
  · intro a0 w9 K9 hF hB hK hC
    obtain ⟨v50, e50, z50⟩ := dep hK 0 (g := .data) (j := 6) (k := 50) rfl rfl rfl
    have z50 : v50 = .int .u64 (m0 : Int) := z50
    subst z50
    clear hF hB hK
    go_simp
    exact hC _ _ (bel_refl _) fun _ _ => rfl
  · intro a0 w9 K9 hF hB hK hC
    obtain ⟨v63, e63, z63⟩ := dep hK 0 (g := .data) (j := 19) (k := 63) rfl rfl rfl
    have z63 : v63 = .int .i64 (x : Int) := z63
    subst z63
    clear hF hB hK
    go_simp
    exact hC _ _ (bel_refl _) fun _ _ => rfl
  case fin =>
    intro a0 w9 hF hB hK
    have b0 := hF.base (k := 0) (v := .int .u64 (N : Int)) (by kernel_rfl) rfl
    have b1 := hF.base (k := 1) (v := .int .i64 sz) (by kernel_rfl) rfl
    have b4 := hF.base (k := 4) (v := .pointer (some ⟨w.heap.size, 0, none⟩)) (by kernel_rfl) rfl
    have b5 := hF.base (k := 5) (v := .int .i64 0) (by kernel_rfl) rfl
    have b6 := hF.base (k := 6) (v := .pointer (some ⟨w1.heap.size, 0, none⟩)) (by kernel_rfl) rfl
    have b8 := hF.base (k := 8) (v := .bool s) (by kernel_rfl) rfl
    have hsz := hF.size
    have hdf := hF.defers
    clear hF
    obtain ⟨v9, e9, z9⟩ := known hK 20 (k := 9) (by decide) rfl
    have z9 : v9 = .int .u64 (m0 : Int) := z9
    subst z9
    obtain ⟨v10, e10, z10⟩ := known hK 21 (k := 10) (by decide) rfl
    have z10 : v10 = .int .i64 (x : Int) := z10
    subst z10
    clear hK
    obtain ⟨⟨l0⟩, df⟩ := a0
    have hs0 : l0.length = 132 := hsz
    clear hsz
    replace hdf : df = _ := hdf
    subst hdf
    obtain ⟨u, rfl⟩ := lits_132 hs0
    clear hs0
    generalize hAr : (Array.mk [u 0, u 1, u 2, u 3, u 4, u 5, u 6, u 7, u 8, u 9, u 10, u 11, u 12, u 13, u 14, u 15, u 16, u 17, u 18, u 19, u 20, u 21, u 22, u 23, u 24, u 25, u 26, u 27, u 28, u 29, u 30, u 31, u 32, u 33, u 34, u 35, u 36, u 37, u 38, u 39, u 40, u 41, u 42, u 43, u 44, u 45, u 46, u 47, u 48, u 49, u 50, u 51, u 52, u 53, u 54, u 55, u 56, u 57, u 58, u 59, u 60, u 61, u 62, u 63, u 64, u 65, u 66, u 67, u 68, u 69, u 70, u 71, u 72, u 73, u 74, u 75, u 76, u 77, u 78, u 79, u 80, u 81, u 82, u 83, u 84, u 85, u 86, u 87, u 88, u 89, u 90, u 91, u 92, u 93, u 94, u 95, u 96, u 97, u 98, u 99, u 100, u 101, u 102, u 103, u 104, u 105, u 106, u 107, u 108, u 109, u 110, u 111, u 112, u 113, u 114, u 115, u 116, u 117, u 118, u 119, u 120, u 121, u 122, u 123, u 124, u 125, u 126, u 127, u 128, u 129, u 130, u 131] : Array Value) = ar
    obtain rfl : ar = #[u 0, u 1, u 2, u 3, u 4, u 5, u 6, u 7, u 8, u 9, u 10, u 11, u 12, u 13, u 14, u 15, u 16, u 17, u 18, u 19, u 20, u 21, u 22, u 23, u 24, u 25, u 26, u 27, u 28, u 29, u 30, u 31, u 32, u 33, u 34, u 35, u 36, u 37, u 38, u 39, u 40, u 41, u 42, u 43, u 44, u 45, u 46, u 47, u 48, u 49, u 50, u 51, u 52, u 53, u 54, u 55, u 56, u 57, u 58, u 59, u 60, u 61, u 62, u 63, u 64, u 65, u 66, u 67, u 68, u 69, u 70, u 71, u 72, u 73, u 74, u 75, u 76, u 77, u 78, u 79, u 80, u 81, u 82, u 83, u 84, u 85, u 86, u 87, u 88, u 89, u 90, u 91, u 92, u 93, u 94, u 95, u 96, u 97, u 98, u 99, u 100, u 101, u 102, u 103, u 104, u 105, u 106, u 107, u 108, u 109, u 110, u 111, u 112, u 113, u 114, u 115, u 116, u 117, u 118, u 119, u 120, u 121, u 122, u 123, u 124, u 125, u 126, u 127, u 128, u 129, u 130, u 131] := hAr.symm
    have q0 : u 0 = _ := Option.some.inj b0
    clear b0
    have q1 : u 1 = _ := Option.some.inj b1
    clear b1
    have q4 : u 4 = _ := Option.some.inj b4
    clear b4
    have q5 : u 5 = _ := Option.some.inj b5
    clear b5
    have q6 : u 6 = _ := Option.some.inj b6
    clear b6
    have q8 : u 8 = _ := Option.some.inj b8
    clear b8
    have q9 : u 9 = _ := Option.some.inj e9
    clear e9
    have q10 : u 10 = _ := Option.some.inj e10
    clear e10
    rw [q0, q1, q4, q5, q6, q8, q9, q10]
    clear q0 q1 q4 q5 q6 q8 q9 q10
    have hbl := hB; clear hB
    replace RES := Lib.hid (RES.out.below hbl RES.out.lt)
    replace CF := Lib.hid (CF.out.below hbl CF.out.lt)
    replace HW := Lib.hid (bel_trans HW.out hbl); clear hbl
    clear CF0 CF1 CF2
    have CF0 : w9.cell? ⟨w1.heap.size, 0, none⟩ = some (.int .i64 (p : Int)) := CF.out.cell 0
    have CF1 : w9.cell? ⟨w1.heap.size, 1, none⟩ = some (.int .i64 (q : Int)) := CF.out.cell 1
    have CF2 : w9.cell? ⟨w1.heap.size, 2, none⟩ = some (.int .i64 (t : Int)) := CF.out.cell 2
    refine wpList_nil ?_
    have hxK : x = K := by rw [HM.out.2.1, HM.out.2.2.1, HM.out.2.2.2.2.2.2]; exact h1
    have HX := Lib.hid hxK
    subst hxK
    have d0 : w9.cell? ⟨w.heap.size, 0, none⟩ = some (.bool false) := RES.out.cell 0
    have f0 : w9.frozen? ⟨w.heap.size, 0, none⟩ = false := RES.out.frozen 0
    have d1 : w9.cell? ⟨w.heap.size, 1, none⟩ = some (.slice none 0 0) := RES.out.cell 1
    have f1 : w9.frozen? ⟨w.heap.size, 1, none⟩ = false := RES.out.frozen 1
    have d2 : w9.cell? ⟨w.heap.size, 2, none⟩ = some (.slice none 0 0) := RES.out.cell 2
    have f2 : w9.frozen? ⟨w.heap.size, 2, none⟩ = false := RES.out.frozen 2
    have D := Lib.hid (And.intro (RES.out.put3 (.bool false) (.slice none 0 0) (.slice none 0 0)) (bel_set3 HW.out (Nat.le_refl _) (.bool false) (.slice none 0 0) (.slice none 0 0)))
    have N0 := Lib.hid (RdN.set3 RES.out (RdN.none0 _) (.bool false) (.slice none 0 0) (.slice none 0 0))
    have N1 := Lib.hid (RdN.set3 RES.out (RdN.none0 _) (.bool false) (.slice none 0 0) (.slice none 0 0))
    go_wp2
    refine bodyPost_ret (v := .tuple #[.agg #[.bool false, .slice none 0 0, .slice none 0 0], .int .i64 1]) ?hr3 rfl ?hR3
    case hR3 => exact ⟨_, _, rfl, N0.out, N1.out, D.out.2⟩
    case hr3 => exact results_row_tmp rfl _ _ (w.heap.size) 25 _ (0, 0) _ _ rfl rfl D.out.1 Try.underlying25 rfl (by kernel_rfl)

set_option maxRecDepth 100000 in
set_option maxHeartbeats 1000000 in
theorem rvalue_good_f (N : Nat) (sz : Int) (p q t b : Nat) (s : Bool) (w : World) (hf : Fm sz p q t) (z1 : (sz == 32) = false) (hb : ¬ (t + q + 2) * 2 ^ (p - 1) ≤ b) (hs : b = 0 → s = false) (hN : N = b + s.toNat * 2 ^ (sz.toNat - 1)) :
    Calls Try.prog 47 #[.int .u64 (N : Int), .int .i64 sz] w (RetVal s p q b w) := by
  obtain ⟨op1, op2, oq0, oq, ot, os1, os2⟩ := hf.ok
  obtain ⟨z, hz3⟩ : ∃ z : Nat, sz = (z : Int) + 1 := ⟨sz.toNat - 1, by omega⟩
  obtain ⟨ew, hw1, hw2, hw3, hw4, hw5⟩ := hf.wide hz3
  have HF := Lib.hid hf; clear hf
  obtain ⟨Z, hZ⟩ : ∃ Z, Z = 2 ^ z := ⟨_, rfl⟩
  obtain ⟨H, hH⟩ : ∃ H, H = 2 ^ (p - 1) := ⟨_, rfl⟩
  obtain ⟨X, hX⟩ : ∃ X, X = 2 ^ ew := ⟨_, rfl⟩
  have hZH : Z = H * X := by rw [hZ, hH, hX, ← Nat.pow_add, hw1]
  have hH0 : 0 < H := by rw [hH]; exact Nat.pow_pos (by decide)
  have hH1 : H ≤ 4503599627370496 := by rw [hH]; exact Nat.pow_le_pow_right (n := 2) (j := 52) (by decide) (by omega)
  have hX1 : X ≤ 2048 := by rw [hX]; exact Nat.pow_le_pow_right (n := 2) (j := 11) (by decide) hw4
  have hZ1 : Z ≤ 9223372036854775808 := by rw [hZ]; exact Nat.pow_le_pow_right (n := 2) (j := 63) (by decide) hw5
  have hz9 : sz.toNat - 1 = z := by omega
  rw [hz9, ← hZ] at hN
  have g1 : IntKind.i64.wrap (sz - 1) = (z : Int) := by rw [IntKind.wrap_i64]; omega
  have g2 : min z 64 = z := by omega
  have g3 : (2 : Int) ^ z = (Z : Int) := by rw [hZ, Int.natCast_pow]; rfl
  have g4 : IntKind.u64.wrap (Z : Int) = (Z : Int) := by rw [IntKind.wrap_u64]; omega
  have hbZ : b < Z := by rw [hZ]; exact fit_code HF.out hz3 hb
  have hNZ : N ≠ Z := by
    cases s
    · rw [hN]; simp; omega
    · have : b ≠ 0 := fun h => by have := hs h; cases this
      rw [hN]; simp; omega
  have hNZ2 : N < 18446744073709551616 := by
    rw [hN]
    cases s
    · simp; omega
    · simp; omega
  have g5 : ((N : Int) == (Z : Int)) = false := by simp only [beq_eq_false_iff_ne, ne_eq]; omega
  have g6 : ¬ (N : Int) = (Z : Int) := by omega
  obtain ⟨r1, r2, r3⟩ := parts (s := s.toNat) hbZ hZH hH0
  rw [← hN] at r1 r2 r3
  obtain ⟨x, hx⟩ : ∃ x, x = b / H := ⟨_, rfl⟩
  obtain ⟨m0, hm0⟩ : ∃ m, m = b % H := ⟨_, rfl⟩
  rw [← hm0] at r2
  rw [← hx] at r3
  have hm1 : m0 < H := by rw [hm0]; exact Nat.mod_lt _ hH0
  have hxX : x < X := by rw [hx, Nat.div_lt_iff_lt_mul hH0, Nat.mul_comm, ← hZH]; exact hbZ
  have g7 : (N : Int) / (Z : Int) = ((s.toNat : Nat) : Int) := by rw [← r1]; exact (Int.natCast_ediv N Z).symm
  have g8 : (((s.toNat : Nat) : Int) == 1) = s := b_eq s
  obtain ⟨J, hJ⟩ : ∃ J, J = N / H := ⟨_, rfl⟩
  rw [← hJ] at r3
  obtain ⟨H1, hH2⟩ : ∃ H1, H1 = H - 1 := ⟨_, rfl⟩
  obtain ⟨K, hK⟩ : ∃ K, K = t + q + 2 := ⟨_, rfl⟩
  have hKX : X = K + 1 := by rw [hK, hX]; omega
  have hJN : J ≤ N := by rw [hJ]; exact Nat.div_le_self _ _
  have k1 : IntKind.i64.wrap ((p : Int) - 1) = ((p - 1 : Nat) : Int) := by rw [IntKind.wrap_i64]; omega
  have k2 : min (p - 1) 64 = p - 1 := by omega
  have k3 : (2 : Int) ^ (p - 1) = (H : Int) := by rw [hH, Int.natCast_pow]; rfl
  have k4 : IntKind.u64.wrap (H : Int) = (H : Int) := by rw [IntKind.wrap_u64]; omega
  have k5 : IntKind.u64.wrap ((H : Int) - 1) = (H1 : Int) := by rw [IntKind.wrap_u64]; omega
  have k6 : bits BinOp.and IntKind.u64 (N : Int) (H1 : Int) = (m0 : Int) := by rw [u64_and_nat _ _ hNZ2 (by omega), hH2, hH, Nat.and_two_pow_sub_one_eq_mod, ← hH, r2]
  have k7 : (N : Int) / (H : Int) = (J : Int) := by rw [hJ]; exact (Int.natCast_ediv N H).symm
  have k8 : IntKind.i64.wrap (sz - (p : Int)) = (ew : Int) := by rw [IntKind.wrap_i64]; omega
  have k9 : min ew 64 = ew := by omega
  have k10 : (2 : Int) ^ ew = (X : Int) := by rw [hX, Int.natCast_pow]; rfl
  have k11 : IntKind.u64.wrap (X : Int) = (X : Int) := by rw [IntKind.wrap_u64]; omega
  have k12 : IntKind.u64.wrap ((X : Int) - 1) = (K : Int) := by rw [IntKind.wrap_u64]; omega
  have k13 : bits BinOp.and IntKind.u64 (J : Int) (K : Int) = (x : Int) := by rw [u64_and_nat _ _ (by omega) (by omega), show K = 2 ^ ew - 1 by omega, Nat.and_two_pow_sub_one_eq_mod, ← hX, r3]
  have k14 : IntKind.i64.wrap (x : Int) = (x : Int) := by rw [IntKind.wrap_i64]; omega
  have k15 : IntKind.i64.wrap (X : Int) = (X : Int) := by rw [IntKind.wrap_i64]; omega
  have k16 : IntKind.i64.wrap ((X : Int) - 1) = (K : Int) := by rw [IntKind.wrap_i64]; omega
  have k17 : IntKind.u64.wrap (x : Int) = (x : Int) := by rw [IntKind.wrap_u64]; omega
  have HX9 := Lib.hid hX1
  have HM := Lib.hid (And.intro hm0 (And.intro hx (And.intro hH (And.intro hm1 (And.intro hxX (And.intro hKX hK)))))); clear hm0 hx hm1 hxX hKX hK
  clear r1 r2 r3 hJ hJN hNZ hNZ2 hbZ hN hZH hH0 hX1 hZ1 hz9 hw1 hw2 hw3 hX hH2 hZ hH hz3
  obtain ⟨wa, hwa⟩ : ∃ wa, wa = w.alloc (.cells #[.bool false, .slice none 0 0, .slice none 0 0] 25) := ⟨_, rfl⟩
  have hbl : Below w.heap.size w wa := by rw [hwa]; exact bel_alloc (bel_refl _) _
  have RES : Blk wa (w.heap.size) 25 #[.bool false, .slice none 0 0, .slice none 0 0] := by
    have hz := Blk.new (w) 25 #[.bool false, .slice none 0 0, .slice none 0 0]
    rw [hwa]
    exact hz
  have HW := Lib.hid hbl; clear hbl
  replace RES := Lib.hid RES
  go_enter Try.func47, Try.ntmps47
  go_wp2_with fail
  rw [← hwa]
  clear hwa
  refine (forms_any _).mono ?_
  rintro e w1 ⟨rfl, hmap, hbl⟩
  replace RES := Lib.hid (RES.out.below hbl RES.out.lt)
  replace HW := Lib.hid (bel_trans HW.out hbl); clear hbl
  have hlk := look_form hmap HF.out
  clear hmap
  go_upto_region 2 with fail
  obtain ⟨wm, hwm⟩ : ∃ wm, wm = w1.alloc (.cells #[.int .i64 (p : Int), .int .i64 (q : Int), .int .i64 (t : Int)] 74) := ⟨_, rfl⟩
  rw [← hwm]
  have hbl : Below w1.heap.size w1 wm := by rw [hwm]; exact bel_alloc (bel_refl _) _
  have CF : Blk wm (w1.heap.size) 74 #[.int .i64 (p : Int), .int .i64 (q : Int), .int .i64 (t : Int)] := by
    have hz := Blk.new (w1) 74 #[.int .i64 (p : Int), .int .i64 (q : Int), .int .i64 (t : Int)]
    rw [hwm]
    exact hz
  clear hwm
  replace RES := Lib.hid (RES.out.below hbl RES.out.lt)
  replace HW := Lib.hid (bel_trans HW.out hbl); clear hbl
  replace CF := Lib.hid CF
  have CF0 : wm.cell? ⟨w1.heap.size, 0, none⟩ = some (.int .i64 (p : Int)) := CF.out.cell 0
  have CF1 : wm.cell? ⟨w1.heap.size, 1, none⟩ = some (.int .i64 (q : Int)) := CF.out.cell 1
  have CF2 : wm.cell? ⟨w1.heap.size, 2, none⟩ = some (.int .i64 (t : Int)) := CF.out.cell 2
  go_upto_region 5 with fail
  refine wp_region_typed 22 (TOf [VIs (.int .u64 (N : Int)),
      VIs (.pointer (some ⟨w1.heap.size, 0, none⟩)),
      VIs (.int .i64 (p : Int)),
      VIs (.int .i64 ((p - 1 : Nat) : Int)),
      VIs (.int .u64 (H : Int)),
      VIs (.int .u64 (H1 : Int)),
      VIs (.int .u64 (m0 : Int)),
      VIs (.int .u64 (N : Int)),
      VIs (.pointer (some ⟨w1.heap.size, 0, none⟩)),
      VIs (.int .i64 (p : Int)),
      VIs (.int .i64 ((p - 1 : Nat) : Int)),
      VIs (.int .u64 (J : Int)),
      VIs (.int .i64 sz),
      VIs (.pointer (some ⟨w1.heap.size, 0, none⟩)),
      VIs (.int .i64 (p : Int)),
      VIs (.int .i64 (ew : Int)),
      VIs (.int .u64 (X : Int)),
      VIs (.int .u64 (K : Int)),
      VIs (.int .u64 (x : Int)),
      VIs (.int .i64 (x : Int)),
      VIs (.int .u64 (m0 : Int)),
      VIs (.int .i64 (x : Int))]) (by kernel_rfl) (by kernel_rfl) (by kernel_rfl) (LiftAll.at_ (.cons (VIs.lift _) (.cons (VIs.lift _) (.cons (VIs.lift _) (.cons (VIs.lift _) (.cons (VIs.lift _) (.cons (VIs.lift _) (.cons (VIs.lift _) (.cons (VIs.lift _) (.cons (VIs.lift _) (.cons (VIs.lift _) (.cons (VIs.lift _) (.cons (VIs.lift _) (.cons (VIs.lift _) (.cons (VIs.lift _) (.cons (VIs.lift _) (.cons (VIs.lift _) (.cons (VIs.lift _) (.cons (VIs.lift _) (.cons (VIs.lift _) (.cons (VIs.lift _) (.cons (VIs.lift _) (.cons (VIs.lift _) .nil))))))))))))))))))))))) (steps_all (steps_cons ?_ (steps_cons ?_ (steps_cons ?_ (steps_cons ?_ (steps_cons ?_ (steps_cons ?_ (steps_cons ?_ (steps_cons ?_ (steps_cons ?_ (steps_cons ?_ (steps_cons ?_ (steps_cons ?_ (steps_cons ?_ (steps_cons ?_ (steps_cons ?_ (steps_cons ?_ (steps_cons ?_ (steps_cons ?_ (steps_cons ?_ (steps_cons ?_ (steps_cons ?_ (steps_cons ?_ steps_zero))))))))))))))))))))))) ?fin
  · intro a0 w9 K9 hF hB hK hC
    have b0 := hF.base (k := 0) (v := .int .u64 (N : Int)) (by kernel_rfl) rfl
    clear hF hB hK
    go_simp
    exact hC _ _ (bel_refl _) fun _ _ => rfl
  · intro a0 w9 K9 hF hB hK hC
    have b6 := hF.base (k := 6) (v := .pointer (some ⟨w1.heap.size, 0, none⟩)) (by kernel_rfl) rfl
    clear hF hB hK
    go_simp
    exact hC _ _ (bel_refl _) fun _ _ => rfl
  · intro a0 w9 K9 hF hB hK hC
    obtain ⟨v45, e45, z45⟩ := dep hK 0 (g := .data) (j := 1) (k := 45) rfl rfl rfl
    have z45 : v45 = .pointer (some ⟨w1.heap.size, 0, none⟩) := z45
    subst z45
    have x9 : w9.cell? ⟨w1.heap.size, 0, none⟩ = some (.int .i64 (p : Int)) := (CF.out.below hB CF.out.lt).cell 0
    clear hF hB hK
    go_simp
    exact hC _ _ (bel_refl _) fun _ _ => rfl
  · intro a0 w9 K9 hF hB hK hC
    obtain ⟨v46, e46, z46⟩ := dep hK 0 (g := .data) (j := 2) (k := 46) rfl rfl rfl
    have z46 : v46 = .int .i64 (p : Int) := z46
    subst z46
    have HB9 := Lib.hid hB
    clear hF hB hK
    go_simp
    exact hC _ _ (bel_refl _) fun _ _ => rfl
  · intro a0 w9 K9 hF hB hK hC
    obtain ⟨v47, e47, z47⟩ := dep hK 0 (g := .data) (j := 3) (k := 47) rfl rfl rfl
    have z47 : v47 = .int .i64 ((p - 1 : Nat) : Int) := z47
    subst z47
    have HB9 := Lib.hid hB
    clear hF hB hK
    go_simp
    exact hC _ _ (bel_refl _) fun _ _ => rfl
  · intro a0 w9 K9 hF hB hK hC
    obtain ⟨v48, e48, z48⟩ := dep hK 0 (g := .data) (j := 4) (k := 48) rfl rfl rfl
    have z48 : v48 = .int .u64 (H : Int) := z48
    subst z48
    have HB9 := Lib.hid hB
    clear hF hB hK
    go_simp
    exact hC _ _ (bel_refl _) fun _ _ => rfl
  · intro a0 w9 K9 hF hB hK hC
    obtain ⟨v44, e44, z44⟩ := dep hK 0 (g := .data) (j := 0) (k := 44) rfl rfl rfl
    have z44 : v44 = .int .u64 (N : Int) := z44
    subst z44
    obtain ⟨v49, e49, z49⟩ := dep hK 1 (g := .data) (j := 5) (k := 49) rfl rfl rfl
    have z49 : v49 = .int .u64 (H1 : Int) := z49
    subst z49
    have HB9 := Lib.hid hB
    clear hF hB hK
    go_simp
    exact hC _ _ (bel_refl _) fun _ _ => rfl
  · intro a0 w9 K9 hF hB hK hC
    have b0 := hF.base (k := 0) (v := .int .u64 (N : Int)) (by kernel_rfl) rfl
    clear hF hB hK
    go_simp
    exact hC _ _ (bel_refl _) fun _ _ => rfl
  · intro a0 w9 K9 hF hB hK hC
    have b6 := hF.base (k := 6) (v := .pointer (some ⟨w1.heap.size, 0, none⟩)) (by kernel_rfl) rfl
    clear hF hB hK
    go_simp
    exact hC _ _ (bel_refl _) fun _ _ => rfl
  · intro a0 w9 K9 hF hB hK hC
    obtain ⟨v52, e52, z52⟩ := dep hK 0 (g := .data) (j := 8) (k := 52) rfl rfl rfl
    have z52 : v52 = .pointer (some ⟨w1.heap.size, 0, none⟩) := z52
    subst z52
    have x9 : w9.cell? ⟨w1.heap.size, 0, none⟩ = some (.int .i64 (p : Int)) := (CF.out.below hB CF.out.lt).cell 0
    clear hF hB hK
    go_simp
    exact hC _ _ (bel_refl _) fun _ _ => rfl
  · intro a0 w9 K9 hF hB hK hC
    obtain ⟨v53, e53, z53⟩ := dep hK 0 (g := .data) (j := 9) (k := 53) rfl rfl rfl
    have z53 : v53 = .int .i64 (p : Int) := z53
    subst z53
    have HB9 := Lib.hid hB
    clear hF hB hK
    go_simp
    exact hC _ _ (bel_refl _) fun _ _ => rfl
  · intro a0 w9 K9 hF hB hK hC
    obtain ⟨v51, e51, z51⟩ := dep hK 0 (g := .data) (j := 7) (k := 51) rfl rfl rfl
    have z51 : v51 = .int .u64 (N : Int) := z51
    subst z51
    obtain ⟨v54, e54, z54⟩ := dep hK 1 (g := .data) (j := 10) (k := 54) rfl rfl rfl
    have z54 : v54 = .int .i64 ((p - 1 : Nat) : Int) := z54
    subst z54
    have HB9 := Lib.hid hB
    clear hF hB hK
    go_simp
    exact hC _ _ (bel_refl _) fun _ _ => rfl
  · intro a0 w9 K9 hF hB hK hC
    have b1 := hF.base (k := 1) (v := .int .i64 sz) (by kernel_rfl) rfl
    clear hF hB hK
    go_simp
    exact hC _ _ (bel_refl _) fun _ _ => rfl
  · intro a0 w9 K9 hF hB hK hC
    have b6 := hF.base (k := 6) (v := .pointer (some ⟨w1.heap.size, 0, none⟩)) (by kernel_rfl) rfl
    clear hF hB hK
    go_simp
    exact hC _ _ (bel_refl _) fun _ _ => rfl
  · intro a0 w9 K9 hF hB hK hC
    obtain ⟨v57, e57, z57⟩ := dep hK 0 (g := .data) (j := 13) (k := 57) rfl rfl rfl
    have z57 : v57 = .pointer (some ⟨w1.heap.size, 0, none⟩) := z57
    subst z57
    have x9 : w9.cell? ⟨w1.heap.size, 0, none⟩ = some (.int .i64 (p : Int)) := (CF.out.below hB CF.out.lt).cell 0
    clear hF hB hK
    go_simp
    exact hC _ _ (bel_refl _) fun _ _ => rfl
  · intro a0 w9 K9 hF hB hK hC
    obtain ⟨v56, e56, z56⟩ := dep hK 0 (g := .data) (j := 12) (k := 56) rfl rfl rfl
    have z56 : v56 = .int .i64 sz := z56
    subst z56
    obtain ⟨v58, e58, z58⟩ := dep hK 1 (g := .data) (j := 14) (k := 58) rfl rfl rfl
    have z58 : v58 = .int .i64 (p : Int) := z58
    subst z58
    have HB9 := Lib.hid hB
    clear hF hB hK
    go_simp
    exact hC _ _ (bel_refl _) fun _ _ => rfl
  · intro a0 w9 K9 hF hB hK hC
    obtain ⟨v59, e59, z59⟩ := dep hK 0 (g := .data) (j := 15) (k := 59) rfl rfl rfl
    have z59 : v59 = .int .i64 (ew : Int) := z59
    subst z59
    have HB9 := Lib.hid hB
    clear hF hB hK
    go_simp
    exact hC _ _ (bel_refl _) fun _ _ => rfl
  · intro a0 w9 K9 hF hB hK hC
    obtain ⟨v60, e60, z60⟩ := dep hK 0 (g := .data) (j := 16) (k := 60) rfl rfl rfl
    have z60 : v60 = .int .u64 (X : Int) := z60
    subst z60
    have HB9 := Lib.hid hB
    clear hF hB hK
    go_simp
    exact hC _ _ (bel_refl _) fun _ _ => rfl
  · intro a0 w9 K9 hF hB hK hC
    obtain ⟨v55, e55, z55⟩ := dep hK 0 (g := .data) (j := 11) (k := 55) rfl rfl rfl
    have z55 : v55 = .int .u64 (J : Int) := z55
    subst z55
    obtain ⟨v61, e61, z61⟩ := dep hK 1 (g := .data) (j := 17) (k := 61) rfl rfl rfl
    have z61 : v61 = .int .u64 (K : Int) := z61
    subst z61
    have HB9 := Lib.hid hB
    clear hF hB hK
    go_simp
    exact hC _ _ (bel_refl _) fun _ _ => rfl
  · intro a0 w9 K9 hF hB hK hC
    obtain ⟨v62, e62, z62⟩ := dep hK 0 (g := .data) (j := 18) (k := 62) rfl rfl rfl
    have z62 : v62 = .int .u64 (x : Int) := z62
    subst z62
    have HB9 := Lib.hid hB
    clear hF hB hK
    go_simp
    exact hC _ _ (bel_refl _) fun _ _ => rfl
  · intro a0 w9 K9 hF hB hK hC
    obtain ⟨v50, e50, z50⟩ := dep hK 0 (g := .data) (j := 6) (k := 50) rfl rfl rfl
    have z50 : v50 = .int .u64 (m0 : Int) := z50
    subst z50
    clear hF hB hK
    go_simp
    exact hC _ _ (bel_refl _) fun _ _ => rfl
  · intro a0 w9 K9 hF hB hK hC
    obtain ⟨v63, e63, z63⟩ := dep hK 0 (g := .data) (j := 19) (k := 63) rfl rfl rfl
    have z63 : v63 = .int .i64 (x : Int) := z63
    subst z63
    clear hF hB hK
    go_simp
    exact hC _ _ (bel_refl _) fun _ _ => rfl
  case fin =>
    intro a0 w9 hF hB hK
    have b0 := hF.base (k := 0) (v := .int .u64 (N : Int)) (by kernel_rfl) rfl
    have b1 := hF.base (k := 1) (v := .int .i64 sz) (by kernel_rfl) rfl
    have b4 := hF.base (k := 4) (v := .pointer (some ⟨w.heap.size, 0, none⟩)) (by kernel_rfl) rfl
    have b5 := hF.base (k := 5) (v := .int .i64 0) (by kernel_rfl) rfl
    have b6 := hF.base (k := 6) (v := .pointer (some ⟨w1.heap.size, 0, none⟩)) (by kernel_rfl) rfl
    have b8 := hF.base (k := 8) (v := .bool s) (by kernel_rfl) rfl
    have hsz := hF.size
    have hdf := hF.defers
    clear hF
    obtain ⟨v9, e9, z9⟩ := known hK 20 (k := 9) (by decide) rfl
    have z9 : v9 = .int .u64 (m0 : Int) := z9
    subst z9
    obtain ⟨v10, e10, z10⟩ := known hK 21 (k := 10) (by decide) rfl
    have z10 : v10 = .int .i64 (x : Int) := z10
    subst z10
    clear hK
    obtain ⟨⟨l0⟩, df⟩ := a0
    have hs0 : l0.length = 132 := hsz
    clear hsz
    replace hdf : df = _ := hdf
    subst hdf
    obtain ⟨u, rfl⟩ := lits_132 hs0
    clear hs0
    generalize hAr : (Array.mk [u 0, u 1, u 2, u 3, u 4, u 5, u 6, u 7, u 8, u 9, u 10, u 11, u 12, u 13, u 14, u 15, u 16, u 17, u 18, u 19, u 20, u 21, u 22, u 23, u 24, u 25, u 26, u 27, u 28, u 29, u 30, u 31, u 32, u 33, u 34, u 35, u 36, u 37, u 38, u 39, u 40, u 41, u 42, u 43, u 44, u 45, u 46, u 47, u 48, u 49, u 50, u 51, u 52, u 53, u 54, u 55, u 56, u 57, u 58, u 59, u 60, u 61, u 62, u 63, u 64, u 65, u 66, u 67, u 68, u 69, u 70, u 71, u 72, u 73, u 74, u 75, u 76, u 77, u 78, u 79, u 80, u 81, u 82, u 83, u 84, u 85, u 86, u 87, u 88, u 89, u 90, u 91, u 92, u 93, u 94, u 95, u 96, u 97, u 98, u 99, u 100, u 101, u 102, u 103, u 104, u 105, u 106, u 107, u 108, u 109, u 110, u 111, u 112, u 113, u 114, u 115, u 116, u 117, u 118, u 119, u 120, u 121, u 122, u 123, u 124, u 125, u 126, u 127, u 128, u 129, u 130, u 131] : Array Value) = ar
    obtain rfl : ar = #[u 0, u 1, u 2, u 3, u 4, u 5, u 6, u 7, u 8, u 9, u 10, u 11, u 12, u 13, u 14, u 15, u 16, u 17, u 18, u 19, u 20, u 21, u 22, u 23, u 24, u 25, u 26, u 27, u 28, u 29, u 30, u 31, u 32, u 33, u 34, u 35, u 36, u 37, u 38, u 39, u 40, u 41, u 42, u 43, u 44, u 45, u 46, u 47, u 48, u 49, u 50, u 51, u 52, u 53, u 54, u 55, u 56, u 57, u 58, u 59, u 60, u 61, u 62, u 63, u 64, u 65, u 66, u 67, u 68, u 69, u 70, u 71, u 72, u 73, u 74, u 75, u 76, u 77, u 78, u 79, u 80, u 81, u 82, u 83, u 84, u 85, u 86, u 87, u 88, u 89, u 90, u 91, u 92, u 93, u 94, u 95, u 96, u 97, u 98, u 99, u 100, u 101, u 102, u 103, u 104, u 105, u 106, u 107, u 108, u 109, u 110, u 111, u 112, u 113, u 114, u 115, u 116, u 117, u 118, u 119, u 120, u 121, u 122, u 123, u 124, u 125, u 126, u 127, u 128, u 129, u 130, u 131] := hAr.symm
    have q0 : u 0 = _ := Option.some.inj b0
    clear b0
    have q1 : u 1 = _ := Option.some.inj b1
    clear b1
    have q4 : u 4 = _ := Option.some.inj b4
    clear b4
    have q5 : u 5 = _ := Option.some.inj b5
    clear b5
    have q6 : u 6 = _ := Option.some.inj b6
    clear b6
    have q8 : u 8 = _ := Option.some.inj b8
    clear b8
    have q9 : u 9 = _ := Option.some.inj e9
    clear e9
    have q10 : u 10 = _ := Option.some.inj e10
    clear e10
    rw [q0, q1, q4, q5, q6, q8, q9, q10]
    clear q0 q1 q4 q5 q6 q8 q9 q10
    have hbl := hB; clear hB
    replace RES := Lib.hid (RES.out.below hbl RES.out.lt)
    replace CF := Lib.hid (CF.out.below hbl CF.out.lt)
    replace HW := Lib.hid (bel_trans HW.out hbl); clear hbl
    clear CF0 CF1 CF2
    have CF0 : w9.cell? ⟨w1.heap.size, 0, none⟩ = some (.int .i64 (p : Int)) := CF.out.cell 0
    have CF1 : w9.cell? ⟨w1.heap.size, 1, none⟩ = some (.int .i64 (q : Int)) := CF.out.cell 1
    have CF2 : w9.cell? ⟨w1.heap.size, 2, none⟩ = some (.int .i64 (t : Int)) := CF.out.cell 2
    refine wpList_nil ?_
    have hxK : x ≠ K := by rw [HM.out.2.1, HM.out.2.2.2.2.2.2]; intro h; refine hb ?_; rw [← h, ← HM.out.2.2.1]; exact Nat.div_mul_le_self b H
    have c1 : ((x : Int) == (K : Int)) = false := by simp only [beq_eq_false_iff_ne, ne_eq]; omega
    have HB := Lib.hid (And.intro hb hs); clear hb hs hxK
    go_upto_block 0 with fail
    obtain ⟨m, hm⟩ : ∃ m, m = mant p b := ⟨_, rfl⟩
    obtain ⟨y0, hy0⟩ : ∃ y, y = expo p b := ⟨_, rfl⟩
    have HY := Lib.hid (And.intro hm hy0)
    have hmx : x = 0 → m = m0 ∧ y0 = 0 := fun h => val_low HM.out.1 HM.out.2.1 HM.out.2.2.1 hm hy0 h
    have hmy : x ≠ 0 → m = m0 + H ∧ y0 + 1 = x := fun h => val_high HM.out.1 HM.out.2.1 HM.out.2.2.1 hm hy0 h
    have hmH : m ≤ 9007199254740992 := by rcases Nat.eq_zero_or_pos x with h | h; have := hmx h; have := HM.out.2.2.2.1; omega; have := hmy (by omega); have := HM.out.2.2.2.1; omega
    have hyx : y0 ≤ 2048 := by rcases Nat.eq_zero_or_pos x with h | h; have := hmx h; omega; have := hmy (by omega); have := HM.out.2.2.2.2.1; have := HX9.out; omega
    clear hm hy0
    go_cut [9, 10] (fun v v2 wx => wx = w9 ∧ v = .int .u64 (m : Int) ∧ v2 = .int .i64 ((y0 : Int) + 1))
    case first =>
      by_cases hx0 : x = 0
      · have c2 : ((x : Int) == 0) = true := by simp [hx0]
        obtain ⟨e1, e2⟩ := hmx hx0
        have HE := Lib.hid (And.intro e1 e2); clear e1 e2 hx0
        go_wp2_with fail
        go_meet
        exact ⟨rfl, by rw [HE.out.1], by rw [HE.out.2]; rfl⟩
      · have c2 : ((x : Int) == 0) = false := by simp [hx0]
        obtain ⟨e1, e2⟩ := hmy hx0
        have g10 : bits BinOp.or IntKind.u64 (m0 : Int) (H : Int) = (m : Int) := by
          have h1 := HM.out.2.2.2.1
          rw [u64_or_nat _ _ (by omega) (by omega), e1]
          have h2 := Nat.two_pow_add_eq_or_of_lt (show m0 < 2 ^ (p - 1) by rw [← HM.out.2.2.1]; exact h1) 1
          rw [Nat.mul_one, ← HM.out.2.2.1] at h2
          rw [Nat.or_comm, ← h2, Nat.add_comm]
        have HE := Lib.hid (And.intro e1 e2); clear e1 e2 hx0
        go_wp2_with fail
        go_meet
        exact ⟨rfl, rfl, by first | rfl | (congr 1; have := HE.out.2; omega)⟩
    case rest =>
      obtain ⟨rfl, rfl, rfl⟩ := hcut
      clear hmx hmy c1 k1 k2 k3 k4 k5 k6 k7 k8 k9 k10 k11 k12 k13 k14 k15 k16 k17
      go_wp2_with fail
      refine (of_any m _ (by omega)).mono ?_
      rintro e w2 ⟨vn, rfl, hnn, hbl⟩
      replace RES := Lib.hid (RES.out.below hbl RES.out.lt)
      replace CF := Lib.hid (CF.out.below hbl CF.out.lt)
      replace HW := Lib.hid (bel_trans HW.out hbl); clear hbl
      clear CF0 CF1 CF2
      have CF0 : w2.cell? ⟨w1.heap.size, 0, none⟩ = some (.int .i64 (p : Int)) := CF.out.cell 0
      have CF1 : w2.cell? ⟨w1.heap.size, 1, none⟩ = some (.int .i64 (q : Int)) := CF.out.cell 1
      have CF2 : w2.cell? ⟨w1.heap.size, 2, none⟩ = some (.int .i64 (t : Int)) := CF.out.cell 2
      have HNn := Lib.hid hnn; clear hnn
      obtain ⟨An, cn, rfl, hcn, hrn⟩ := HNn.out.row
      have Rn := Lib.hid hrn; have HCn := Lib.hid hcn; clear hrn hcn
      go_wp2_with fail
      refine (of_one _).mono ?_
      rintro e w3 ⟨vo, rfl, hno, hbl⟩
      replace Rn := Lib.hid (Rn.out.below hbl)
      replace HNn := Lib.hid (HNn.out.below hbl)
      replace RES := Lib.hid (RES.out.below hbl RES.out.lt)
      replace CF := Lib.hid (CF.out.below hbl CF.out.lt)
      replace HW := Lib.hid (bel_trans HW.out hbl); clear hbl
      clear CF0 CF1 CF2
      have CF0 : w3.cell? ⟨w1.heap.size, 0, none⟩ = some (.int .i64 (p : Int)) := CF.out.cell 0
      have CF1 : w3.cell? ⟨w1.heap.size, 1, none⟩ = some (.int .i64 (q : Int)) := CF.out.cell 1
      have CF2 : w3.cell? ⟨w1.heap.size, 2, none⟩ = some (.int .i64 (t : Int)) := CF.out.cell 2
      have HNo := Lib.hid hno; clear hno
      obtain ⟨Ao, co, rfl, hco, hro⟩ := HNo.out.row
      have Ro := Lib.hid hro; have HCo := Lib.hid hco; clear hro hco
      go_wp2_with fail
      go_loopw [9, 10, 11] (fun mv ev nv wr => ∃ (m1 k : Nat), mv = .int .u64 (m1 : Int) ∧ ev = .int .i64 ((y0 : Int) + 1 + k) ∧ VlRel w3 wr m m1 k nv) (fun mv _ _ _ => (intOf mv).toNat)
      case atStart => exact ⟨m, 0, rfl, by simp, bel_refl _, by simp, HNn.out, fun _ => rfl⟩
      case round =>
        obtain ⟨m1, k, rfl, rfl, hrel⟩ := hrel
        have HR := Lib.hid hrel; clear hrel
        clear CF0 CF1 CF2
        replace Rn := Lib.hid (Rn.out.below HR.out.old)
        replace HNn := Lib.hid (HNn.out.below HR.out.old)
        replace Ro := Lib.hid (Ro.out.below HR.out.old)
        replace HNo := Lib.hid (HNo.out.below HR.out.old)
        replace RES := Lib.hid (RES.out.below HR.out.old RES.out.lt)
        replace CF := Lib.hid (CF.out.below HR.out.old CF.out.lt)
        replace HW := Lib.hid (bel_trans HW.out HR.out.old)
        have CF0 : wr.cell? ⟨w1.heap.size, 0, none⟩ = some (.int .i64 (p : Int)) := CF.out.cell 0
        have CF1 : wr.cell? ⟨w1.heap.size, 1, none⟩ = some (.int .i64 (q : Int)) := CF.out.cell 1
        have CF2 : wr.cell? ⟨w1.heap.size, 2, none⟩ = some (.int .i64 (t : Int)) := CF.out.cell 2
        have hmul := HR.out.mul
        have hk : m1 ≠ 0 → k ≤ 60 := fun h => val_k hmul h (by omega)
        have hm1m : m1 ≤ m := by rw [← hmul]; exact Nat.le_mul_of_pos_right _ (Nat.pow_pos (by decide))
        have hk00 := HR.out.k0
        have HK := Lib.hid (And.intro hmul (And.intro hk (And.intro hm1m hk00))); clear hmul hk00
        by_cases h0 : m1 = 0
        · have c3 : ((m1 : Int) != 0) = false := by simp [h0]
          have c5 : ((m1 : Int) == 0) = true := by simp [h0]
          have hk9 : k ≤ 60 := by have := HK.out.2.2.2 h0; omega
          have t1 : IntKind.i64.wrap (1 + (q : Int)) = 1 + (q : Int) := by rw [IntKind.wrap_i64]; omega
          obtain ⟨y, hy⟩ : ∃ y : Int, y = (y0 : Int) + k - q := ⟨_, rfl⟩
          have t2 : IntKind.i64.wrap ((y0 : Int) + 1 + k - (1 + (q : Int))) = y := by rw [IntKind.wrap_i64]; omega
          obtain ⟨A1, ca1, rfl, hca1, hra1⟩ := HR.out.num.row
          have RN := Lib.hid hra1; have KN := Lib.hid hca1; clear hra1 hca1
          clear hk hm1m
          have hb0 : b = 0 := by have h1 := HK.out.1; rw [h0, Nat.zero_mul] at h1; rw [HY.out.1] at h1; exact mant_zero.1 h1.symm
          have hy2 : y = -(q : Int) := by rw [hy, HK.out.2.2.2 h0, HY.out.2, hb0, show expo p 0 = 0 by unfold expo; rw [Nat.zero_div]]; omega
          subst hy2
          have t3 : (-(q : Int)) < 0 := by omega
          have t4 : IntKind.i64.wrap (q : Int) = (q : Int) := by rw [IntKind.wrap_i64]; omega
          have HB0 := Lib.hid (And.intro hb0 h0); clear hb0 h0 hy
          go_wp2_with fail
          refine (shift_up Ao co 1 q _ Ro.out (small_top (by decide))).mono ?_
          rintro e w4 ⟨ve, rfl, hne, hbl⟩
          replace Rn := Lib.hid (Rn.out.below hbl)
          replace HNn := Lib.hid (HNn.out.below hbl)
          replace Ro := Lib.hid (Ro.out.below hbl)
          replace HNo := Lib.hid (HNo.out.below hbl)
          replace RN := Lib.hid (RN.out.below hbl)
          replace RES := Lib.hid (RES.out.below hbl RES.out.lt)
          replace CF := Lib.hid (CF.out.below hbl CF.out.lt)
          replace HW := Lib.hid (bel_trans HW.out hbl); clear hbl
          clear CF0 CF1 CF2
          have CF0 : w4.cell? ⟨w1.heap.size, 0, none⟩ = some (.int .i64 (p : Int)) := CF.out.cell 0
          have CF1 : w4.cell? ⟨w1.heap.size, 1, none⟩ = some (.int .i64 (q : Int)) := CF.out.cell 1
          have CF2 : w4.cell? ⟨w1.heap.size, 2, none⟩ = some (.int .i64 (t : Int)) := CF.out.cell 2
          have HNe := Lib.hid hne; clear hne
          obtain ⟨Ae, ce, rfl, hce, hre⟩ := HNe.out.row
          have Re := Lib.hid hre; have HCe := Lib.hid hce; clear hre hce
          go_wp2_with fail
          refine (of_one _).mono ?_
          rintro e w5 ⟨vp, rfl, hnp, hbl⟩
          replace Rn := Lib.hid (Rn.out.below hbl)
          replace HNn := Lib.hid (HNn.out.below hbl)
          replace Ro := Lib.hid (Ro.out.below hbl)
          replace HNo := Lib.hid (HNo.out.below hbl)
          replace RN := Lib.hid (RN.out.below hbl)
          replace Re := Lib.hid (Re.out.below hbl)
          replace HNe := Lib.hid (HNe.out.below hbl)
          replace RES := Lib.hid (RES.out.below hbl RES.out.lt)
          replace CF := Lib.hid (CF.out.below hbl CF.out.lt)
          replace HW := Lib.hid (bel_trans HW.out hbl); clear hbl
          clear CF0 CF1 CF2
          have CF0 : w5.cell? ⟨w1.heap.size, 0, none⟩ = some (.int .i64 (p : Int)) := CF.out.cell 0
          have CF1 : w5.cell? ⟨w1.heap.size, 1, none⟩ = some (.int .i64 (q : Int)) := CF.out.cell 1
          have CF2 : w5.cell? ⟨w1.heap.size, 2, none⟩ = some (.int .i64 (t : Int)) := CF.out.cell 2
          have HNp := Lib.hid hnp; clear hnp
          obtain ⟨Ap, cp, rfl, hcp, hrp⟩ := HNp.out.row
          have Rp := Lib.hid hrp; have HCp := Lib.hid hcp; clear hrp hcp
          go_wp2_with fail
          refine (make_ok s A1 Ap ca1 cp m1 1 _ RN.out Rp.out KN.out HCp.out (small_top (by rw [HB0.out.2]; decide)) (small_top (by decide)) (by decide) (make_val (show m1 = LN p q b by rw [HB0.out.2, HB0.out.1]; exact (L_zero p q).1.symm) (show 1 = LD p q b by rw [HB0.out.1]; exact (L_zero p q).2.symm) HB.out.2)).mono ?_
          rintro e w6 ⟨vx, vy, rfl, hnx, hny, hbl⟩
          replace Rn := Lib.hid (Rn.out.below hbl)
          replace HNn := Lib.hid (HNn.out.below hbl)
          replace Ro := Lib.hid (Ro.out.below hbl)
          replace HNo := Lib.hid (HNo.out.below hbl)
          replace RN := Lib.hid (RN.out.below hbl)
          replace Re := Lib.hid (Re.out.below hbl)
          replace HNe := Lib.hid (HNe.out.below hbl)
          replace Rp := Lib.hid (Rp.out.below hbl)
          replace HNp := Lib.hid (HNp.out.below hbl)
          replace RES := Lib.hid (RES.out.below hbl RES.out.lt)
          replace CF := Lib.hid (CF.out.below hbl CF.out.lt)
          replace HW := Lib.hid (bel_trans HW.out hbl); clear hbl
          clear CF0 CF1 CF2
          have CF0 : w6.cell? ⟨w1.heap.size, 0, none⟩ = some (.int .i64 (p : Int)) := CF.out.cell 0
          have CF1 : w6.cell? ⟨w1.heap.size, 1, none⟩ = some (.int .i64 (q : Int)) := CF.out.cell 1
          have CF2 : w6.cell? ⟨w1.heap.size, 2, none⟩ = some (.int .i64 (t : Int)) := CF.out.cell 2
          have HNx := Lib.hid hnx; clear hnx
          obtain ⟨Ax, cx, rfl, hcx, hrx⟩ := HNx.out.row
          have Rx := Lib.hid hrx; have HCx := Lib.hid hcx; clear hrx hcx
          have HNy := Lib.hid hny; clear hny
          obtain ⟨Ay, cy, rfl, hcy, hry⟩ := HNy.out.row
          have Ry := Lib.hid hry; have HCy := Lib.hid hcy; clear hry hcy
          have d0 : w6.cell? ⟨w.heap.size, 0, none⟩ = some (.bool false) := RES.out.cell 0
          have f0 : w6.frozen? ⟨w.heap.size, 0, none⟩ = false := RES.out.frozen 0
          have d1 : w6.cell? ⟨w.heap.size, 1, none⟩ = some (.slice none 0 0) := RES.out.cell 1
          have f1 : w6.frozen? ⟨w.heap.size, 1, none⟩ = false := RES.out.frozen 1
          have d2 : w6.cell? ⟨w.heap.size, 2, none⟩ = some (.slice none 0 0) := RES.out.cell 2
          have f2 : w6.frozen? ⟨w.heap.size, 2, none⟩ = false := RES.out.frozen 2
          have D := Lib.hid (And.intro (RES.out.put3 (.bool (valQ s p q b).s) (.slice Ax (limbs (valQ s p q b).n).length cx) (.slice Ay (limbs (valQ s p q b).d).length cy)) (bel_set3 HW.out (Nat.le_refl _) (.bool (valQ s p q b).s) (.slice Ax (limbs (valQ s p q b).n).length cx) (.slice Ay (limbs (valQ s p q b).d).length cy)))
          have N0 := Lib.hid (RdN.set3 RES.out (HNx.out) (.bool (valQ s p q b).s) (.slice Ax (limbs (valQ s p q b).n).length cx) (.slice Ay (limbs (valQ s p q b).d).length cy))
          have N1 := Lib.hid (RdN.set3 RES.out (HNy.out) (.bool (valQ s p q b).s) (.slice Ax (limbs (valQ s p q b).n).length cx) (.slice Ay (limbs (valQ s p q b).d).length cy))
          go_wp2
          refine bodyPost_ret (v := .tuple #[.agg #[.bool (valQ s p q b).s, .slice Ax (limbs (valQ s p q b).n).length cx, .slice Ay (limbs (valQ s p q b).d).length cy], .int .i64 0]) ?hr4 rfl ?hR4
          case hR4 => exact RetVal.fit (by rw [← (show m1 = LN p q b by rw [HB0.out.2, HB0.out.1]; exact (L_zero p q).1.symm)]; exact (small_top (by rw [HB0.out.2]; decide))) (by rw [← (show 1 = LD p q b by rw [HB0.out.1]; exact (L_zero p q).2.symm)]; exact (small_top (by decide))) ⟨_, _, rfl, N0.out, N1.out, D.out.2⟩
          case hr4 => exact results_row_tmp rfl _ _ (w.heap.size) 25 _ (0, 0) _ _ rfl rfl D.out.1 Try.underlying25 rfl (by kernel_rfl)
        · have c3 : ((m1 : Int) != 0) = true := by simp [h0]
          have c5 : ((m1 : Int) == 0) = false := by simp [h0]
          by_cases ho : m1 % 2 = 0
          · have c4 : (bits BinOp.and IntKind.u64 (m1 : Int) 1 == 0) = true := by rw [u64_and_one m1 (by omega), ho]; rfl
            have hk9 := hk h0
            obtain ⟨m2, hm2⟩ : ∃ x, x = m1 / 2 := ⟨_, rfl⟩
            have t1 : (m1 : Int) / 2 = (m2 : Int) := by omega
            have t2 : IntKind.i64.wrap ((y0 : Int) + 1 + k + 1) = (y0 : Int) + 1 + k + 1 := by rw [IntKind.wrap_i64]; omega
            have HN2 := Lib.hid (show m1 = 2 * m2 ∧ m1 ≠ 0 ∧ m2 < m1 ∧ m2 < 18446744073709551616 by omega); clear hm2 ho hk hk9
            go_wp2_with fail
            refine (of_any m2 _ HN2.out.2.2.2).mono ?_
            rintro e w7 ⟨v7, rfl, hn7, hbl⟩
            have H7 := Lib.hid (And.intro hn7 (bel_trans HR.out.old hbl)); clear hn7 hbl
            go_wp2
            go_roundw
            case rel => exact ⟨m2, k + 1, rfl, by first | rfl | (congr 1; omega), H7.out.2, by have h1 := HK.out.1; rw [HN2.out.1] at h1; rw [Nat.pow_succ, ← h1]; grind, H7.out.1, fun h => absurd h (by have := HN2.out; omega)⟩
            case measure => (have := HN2.out.2.2.1; simp [intOf]; omega)
          · have hodd : m1 % 2 = 1 := by omega
            have c4 : (bits BinOp.and IntKind.u64 (m1 : Int) 1 == 0) = false := by rw [u64_and_one m1 (by omega), hodd]; rfl
            have hk9 : k ≤ 60 := hk h0
            have t1 : IntKind.i64.wrap (1 + (q : Int)) = 1 + (q : Int) := by rw [IntKind.wrap_i64]; omega
            obtain ⟨y, hy⟩ : ∃ y : Int, y = (y0 : Int) + k - q := ⟨_, rfl⟩
            have t2 : IntKind.i64.wrap ((y0 : Int) + 1 + k - (1 + (q : Int))) = y := by rw [IntKind.wrap_i64]; omega
            obtain ⟨A1, ca1, rfl, hca1, hra1⟩ := HR.out.num.row
            have RN := Lib.hid hra1; have KN := Lib.hid hca1; clear hra1 hca1
            clear hk hm1m
            obtain ⟨L1, L2⟩ := L_odd (q := q) (HK.out.1.trans HY.out.1) hodd
            rw [← HY.out.2] at L1 L2
            have hmT : m1 < Top := Nat.lt_of_lt_of_le (show m1 < B32 ^ 2 by rw [B32_eq]; have := HK.out.2.2.1; omega) (Nat.pow_le_pow_right (by rw [B32_eq]; decide) (by decide))
            have HT := Lib.hid hmT; clear hmT hodd ho
            by_cases hneg : y < 0
            · obtain ⟨j, hj⟩ : ∃ j : Nat, y = -(j : Int) := ⟨(-y).toNat, by omega⟩
              have hj2 : y0 + k - q = 0 ∧ q - (y0 + k) = j := by omega
              rw [hj2.1, Nat.pow_zero, Nat.mul_one] at L1
              rw [hj2.2] at L2
              subst hj
              have t4 : IntKind.i64.wrap (j : Int) = (j : Int) := by rw [IntKind.wrap_i64]; omega
              have HL := Lib.hid (And.intro L1 L2); clear L1 L2 hj2 hy h0
              obtain ⟨P, hP⟩ : ∃ P, 1 * 2 ^ j = P := ⟨_, rfl⟩
              have HP := Lib.hid hP; clear hP
              by_cases hfit : P < Top
              · have HFIT := Lib.hid hfit; clear hfit
                go_wp2_with fail
                refine (shift_fit Ao co 1 j _ Ro.out (small_top (by decide)) HP.out HFIT.out).mono ?_
                rintro e w4 ⟨ve, rfl, hne, hbl⟩
                replace Rn := Lib.hid (Rn.out.below hbl)
                replace HNn := Lib.hid (HNn.out.below hbl)
                replace Ro := Lib.hid (Ro.out.below hbl)
                replace HNo := Lib.hid (HNo.out.below hbl)
                replace RN := Lib.hid (RN.out.below hbl)
                replace RES := Lib.hid (RES.out.below hbl RES.out.lt)
                replace CF := Lib.hid (CF.out.below hbl CF.out.lt)
                replace HW := Lib.hid (bel_trans HW.out hbl); clear hbl
                clear CF0 CF1 CF2
                have CF0 : w4.cell? ⟨w1.heap.size, 0, none⟩ = some (.int .i64 (p : Int)) := CF.out.cell 0
                have CF1 : w4.cell? ⟨w1.heap.size, 1, none⟩ = some (.int .i64 (q : Int)) := CF.out.cell 1
                have CF2 : w4.cell? ⟨w1.heap.size, 2, none⟩ = some (.int .i64 (t : Int)) := CF.out.cell 2
                have HNe := Lib.hid hne; clear hne
                obtain ⟨Ae, ce, rfl, hce, hre⟩ := HNe.out.row
                have Re := Lib.hid hre; have HCe := Lib.hid hce; clear hre hce
                go_wp2_with fail
                refine (make_ok s A1 Ae ca1 ce m1 P _ RN.out Re.out KN.out HCe.out HT.out HFIT.out (by rw [← HP.out, Nat.one_mul]; exact Nat.ne_of_gt (Nat.pow_pos (by decide))) (make_val HL.out.1 (show P = LD p q b by rw [← HP.out, Nat.one_mul]; exact HL.out.2) HB.out.2)).mono ?_
                rintro e w5 ⟨vx, vy, rfl, hnx, hny, hbl⟩
                replace Rn := Lib.hid (Rn.out.below hbl)
                replace HNn := Lib.hid (HNn.out.below hbl)
                replace Ro := Lib.hid (Ro.out.below hbl)
                replace HNo := Lib.hid (HNo.out.below hbl)
                replace RN := Lib.hid (RN.out.below hbl)
                replace Re := Lib.hid (Re.out.below hbl)
                replace HNe := Lib.hid (HNe.out.below hbl)
                replace RES := Lib.hid (RES.out.below hbl RES.out.lt)
                replace CF := Lib.hid (CF.out.below hbl CF.out.lt)
                replace HW := Lib.hid (bel_trans HW.out hbl); clear hbl
                clear CF0 CF1 CF2
                have CF0 : w5.cell? ⟨w1.heap.size, 0, none⟩ = some (.int .i64 (p : Int)) := CF.out.cell 0
                have CF1 : w5.cell? ⟨w1.heap.size, 1, none⟩ = some (.int .i64 (q : Int)) := CF.out.cell 1
                have CF2 : w5.cell? ⟨w1.heap.size, 2, none⟩ = some (.int .i64 (t : Int)) := CF.out.cell 2
                have HNx := Lib.hid hnx; clear hnx
                obtain ⟨Ax, cx, rfl, hcx, hrx⟩ := HNx.out.row
                have Rx := Lib.hid hrx; have HCx := Lib.hid hcx; clear hrx hcx
                have HNy := Lib.hid hny; clear hny
                obtain ⟨Ay, cy, rfl, hcy, hry⟩ := HNy.out.row
                have Ry := Lib.hid hry; have HCy := Lib.hid hcy; clear hry hcy
                have d0 : w5.cell? ⟨w.heap.size, 0, none⟩ = some (.bool false) := RES.out.cell 0
                have f0 : w5.frozen? ⟨w.heap.size, 0, none⟩ = false := RES.out.frozen 0
                have d1 : w5.cell? ⟨w.heap.size, 1, none⟩ = some (.slice none 0 0) := RES.out.cell 1
                have f1 : w5.frozen? ⟨w.heap.size, 1, none⟩ = false := RES.out.frozen 1
                have d2 : w5.cell? ⟨w.heap.size, 2, none⟩ = some (.slice none 0 0) := RES.out.cell 2
                have f2 : w5.frozen? ⟨w.heap.size, 2, none⟩ = false := RES.out.frozen 2
                have D := Lib.hid (And.intro (RES.out.put3 (.bool (valQ s p q b).s) (.slice Ax (limbs (valQ s p q b).n).length cx) (.slice Ay (limbs (valQ s p q b).d).length cy)) (bel_set3 HW.out (Nat.le_refl _) (.bool (valQ s p q b).s) (.slice Ax (limbs (valQ s p q b).n).length cx) (.slice Ay (limbs (valQ s p q b).d).length cy)))
                have N0 := Lib.hid (RdN.set3 RES.out (HNx.out) (.bool (valQ s p q b).s) (.slice Ax (limbs (valQ s p q b).n).length cx) (.slice Ay (limbs (valQ s p q b).d).length cy))
                have N1 := Lib.hid (RdN.set3 RES.out (HNy.out) (.bool (valQ s p q b).s) (.slice Ax (limbs (valQ s p q b).n).length cx) (.slice Ay (limbs (valQ s p q b).d).length cy))
                go_wp2
                refine bodyPost_ret (v := .tuple #[.agg #[.bool (valQ s p q b).s, .slice Ax (limbs (valQ s p q b).n).length cx, .slice Ay (limbs (valQ s p q b).d).length cy], .int .i64 0]) ?hr5 rfl ?hR5
                case hR5 => exact RetVal.fit (by rw [← HL.out.1]; exact HT.out) (by rw [← (show P = LD p q b by rw [← HP.out, Nat.one_mul]; exact HL.out.2)]; exact HFIT.out) ⟨_, _, rfl, N0.out, N1.out, D.out.2⟩
                case hr5 => exact results_row_tmp rfl _ _ (w.heap.size) 25 _ (0, 0) _ _ rfl rfl D.out.1 Try.underlying25 rfl (by kernel_rfl)
              · have HFIT := Lib.hid hfit; clear hfit
                go_wp2_with fail
                refine (shift_ovr Ao co 1 j _ Ro.out (small_top (by decide)) HP.out HFIT.out).mono ?_
                rintro e w4 ⟨ve, rfl, hne, hbl⟩
                replace Rn := Lib.hid (Rn.out.below hbl)
                replace HNn := Lib.hid (HNn.out.below hbl)
                replace Ro := Lib.hid (Ro.out.below hbl)
                replace HNo := Lib.hid (HNo.out.below hbl)
                replace RN := Lib.hid (RN.out.below hbl)
                replace RES := Lib.hid (RES.out.below hbl RES.out.lt)
                replace CF := Lib.hid (CF.out.below hbl CF.out.lt)
                replace HW := Lib.hid (bel_trans HW.out hbl); clear hbl
                clear CF0 CF1 CF2
                have CF0 : w4.cell? ⟨w1.heap.size, 0, none⟩ = some (.int .i64 (p : Int)) := CF.out.cell 0
                have CF1 : w4.cell? ⟨w1.heap.size, 1, none⟩ = some (.int .i64 (q : Int)) := CF.out.cell 1
                have CF2 : w4.cell? ⟨w1.heap.size, 2, none⟩ = some (.int .i64 (t : Int)) := CF.out.cell 2
                have HNe := Lib.hid hne; clear hne
                obtain ⟨Ae, ce, rfl, hce, hre⟩ := HNe.out.row
                have Re := Lib.hid hre; have HCe := Lib.hid hce; clear hre hce
                have d0 : w4.cell? ⟨w.heap.size, 0, none⟩ = some (.bool false) := RES.out.cell 0
                have f0 : w4.frozen? ⟨w.heap.size, 0, none⟩ = false := RES.out.frozen 0
                have d1 : w4.cell? ⟨w.heap.size, 1, none⟩ = some (.slice none 0 0) := RES.out.cell 1
                have f1 : w4.frozen? ⟨w.heap.size, 1, none⟩ = false := RES.out.frozen 1
                have d2 : w4.cell? ⟨w.heap.size, 2, none⟩ = some (.slice none 0 0) := RES.out.cell 2
                have f2 : w4.frozen? ⟨w.heap.size, 2, none⟩ = false := RES.out.frozen 2
                have D := Lib.hid (And.intro (RES.out.put3 (.bool false) (.slice none 0 0) (.slice none 0 0)) (bel_set3 HW.out (Nat.le_refl _) (.bool false) (.slice none 0 0) (.slice none 0 0)))
                have N0 := Lib.hid (RdN.set3 RES.out (RdN.none0 _) (.bool false) (.slice none 0 0) (.slice none 0 0))
                have N1 := Lib.hid (RdN.set3 RES.out (RdN.none0 _) (.bool false) (.slice none 0 0) (.slice none 0 0))
                go_wp2
                refine bodyPost_ret (v := .tuple #[.agg #[.bool false, .slice none 0 0, .slice none 0 0], .int .i64 2]) ?hr6 rfl ?hR6
                case hR6 => exact RetVal.over (by have h1 := HL.out.2; have h2 := HFIT.out; have h3 := HP.out; rw [Nat.one_mul] at h3; omega) ⟨_, _, rfl, N0.out, N1.out, D.out.2⟩
                case hr6 => exact results_row_tmp rfl _ _ (w.heap.size) 25 _ (0, 0) _ _ rfl rfl D.out.1 Try.underlying25 rfl (by kernel_rfl)
            · obtain ⟨j, hj⟩ : ∃ j : Nat, y = (j : Int) := ⟨y.toNat, by omega⟩
              have hj2 : y0 + k - q = j ∧ q - (y0 + k) = 0 := by omega
              rw [hj2.1] at L1
              rw [hj2.2, Nat.pow_zero] at L2
              subst hj
              have HL := Lib.hid (And.intro L1 L2); clear L1 L2 hj2 hy h0
              obtain ⟨P, hP⟩ : ∃ P, m1 * 2 ^ j = P := ⟨_, rfl⟩
              have HP := Lib.hid hP; clear hP
              by_cases hfit : P < Top
              · have HFIT := Lib.hid hfit; clear hfit
                go_wp2_with fail
                refine (shift_fit A1 ca1 m1 j _ RN.out HT.out HP.out HFIT.out).mono ?_
                rintro e w4 ⟨ve, rfl, hne, hbl⟩
                replace Rn := Lib.hid (Rn.out.below hbl)
                replace HNn := Lib.hid (HNn.out.below hbl)
                replace Ro := Lib.hid (Ro.out.below hbl)
                replace HNo := Lib.hid (HNo.out.below hbl)
                replace RN := Lib.hid (RN.out.below hbl)
                replace RES := Lib.hid (RES.out.below hbl RES.out.lt)
                replace CF := Lib.hid (CF.out.below hbl CF.out.lt)
                replace HW := Lib.hid (bel_trans HW.out hbl); clear hbl
                clear CF0 CF1 CF2
                have CF0 : w4.cell? ⟨w1.heap.size, 0, none⟩ = some (.int .i64 (p : Int)) := CF.out.cell 0
                have CF1 : w4.cell? ⟨w1.heap.size, 1, none⟩ = some (.int .i64 (q : Int)) := CF.out.cell 1
                have CF2 : w4.cell? ⟨w1.heap.size, 2, none⟩ = some (.int .i64 (t : Int)) := CF.out.cell 2
                have HNe := Lib.hid hne; clear hne
                obtain ⟨Ae, ce, rfl, hce, hre⟩ := HNe.out.row
                have Re := Lib.hid hre; have HCe := Lib.hid hce; clear hre hce
                go_wp2_with fail
                refine (make_ok s Ae Ao ce co P 1 _ Re.out Ro.out HCe.out HCo.out HFIT.out (small_top (by decide)) (by decide) (make_val (show P = LN p q b by rw [← HP.out]; exact HL.out.1) (show 1 = LD p q b from HL.out.2) HB.out.2)).mono ?_
                rintro e w5 ⟨vx, vy, rfl, hnx, hny, hbl⟩
                replace Rn := Lib.hid (Rn.out.below hbl)
                replace HNn := Lib.hid (HNn.out.below hbl)
                replace Ro := Lib.hid (Ro.out.below hbl)
                replace HNo := Lib.hid (HNo.out.below hbl)
                replace RN := Lib.hid (RN.out.below hbl)
                replace Re := Lib.hid (Re.out.below hbl)
                replace HNe := Lib.hid (HNe.out.below hbl)
                replace RES := Lib.hid (RES.out.below hbl RES.out.lt)
                replace CF := Lib.hid (CF.out.below hbl CF.out.lt)
                replace HW := Lib.hid (bel_trans HW.out hbl); clear hbl
                clear CF0 CF1 CF2
                have CF0 : w5.cell? ⟨w1.heap.size, 0, none⟩ = some (.int .i64 (p : Int)) := CF.out.cell 0
                have CF1 : w5.cell? ⟨w1.heap.size, 1, none⟩ = some (.int .i64 (q : Int)) := CF.out.cell 1
                have CF2 : w5.cell? ⟨w1.heap.size, 2, none⟩ = some (.int .i64 (t : Int)) := CF.out.cell 2
                have HNx := Lib.hid hnx; clear hnx
                obtain ⟨Ax, cx, rfl, hcx, hrx⟩ := HNx.out.row
                have Rx := Lib.hid hrx; have HCx := Lib.hid hcx; clear hrx hcx
                have HNy := Lib.hid hny; clear hny
                obtain ⟨Ay, cy, rfl, hcy, hry⟩ := HNy.out.row
                have Ry := Lib.hid hry; have HCy := Lib.hid hcy; clear hry hcy
                have d0 : w5.cell? ⟨w.heap.size, 0, none⟩ = some (.bool false) := RES.out.cell 0
                have f0 : w5.frozen? ⟨w.heap.size, 0, none⟩ = false := RES.out.frozen 0
                have d1 : w5.cell? ⟨w.heap.size, 1, none⟩ = some (.slice none 0 0) := RES.out.cell 1
                have f1 : w5.frozen? ⟨w.heap.size, 1, none⟩ = false := RES.out.frozen 1
                have d2 : w5.cell? ⟨w.heap.size, 2, none⟩ = some (.slice none 0 0) := RES.out.cell 2
                have f2 : w5.frozen? ⟨w.heap.size, 2, none⟩ = false := RES.out.frozen 2
                have D := Lib.hid (And.intro (RES.out.put3 (.bool (valQ s p q b).s) (.slice Ax (limbs (valQ s p q b).n).length cx) (.slice Ay (limbs (valQ s p q b).d).length cy)) (bel_set3 HW.out (Nat.le_refl _) (.bool (valQ s p q b).s) (.slice Ax (limbs (valQ s p q b).n).length cx) (.slice Ay (limbs (valQ s p q b).d).length cy)))
                have N0 := Lib.hid (RdN.set3 RES.out (HNx.out) (.bool (valQ s p q b).s) (.slice Ax (limbs (valQ s p q b).n).length cx) (.slice Ay (limbs (valQ s p q b).d).length cy))
                have N1 := Lib.hid (RdN.set3 RES.out (HNy.out) (.bool (valQ s p q b).s) (.slice Ax (limbs (valQ s p q b).n).length cx) (.slice Ay (limbs (valQ s p q b).d).length cy))
                go_wp2
                refine bodyPost_ret (v := .tuple #[.agg #[.bool (valQ s p q b).s, .slice Ax (limbs (valQ s p q b).n).length cx, .slice Ay (limbs (valQ s p q b).d).length cy], .int .i64 0]) ?hr7 rfl ?hR7
                case hR7 => exact RetVal.fit (by rw [← (show P = LN p q b by rw [← HP.out]; exact HL.out.1)]; exact HFIT.out) (by rw [← (show 1 = LD p q b from HL.out.2)]; exact (small_top (by decide))) ⟨_, _, rfl, N0.out, N1.out, D.out.2⟩
                case hr7 => exact results_row_tmp rfl _ _ (w.heap.size) 25 _ (0, 0) _ _ rfl rfl D.out.1 Try.underlying25 rfl (by kernel_rfl)
              · have HFIT := Lib.hid hfit; clear hfit
                go_wp2_with fail
                refine (shift_ovr A1 ca1 m1 j _ RN.out HT.out HP.out HFIT.out).mono ?_
                rintro e w4 ⟨ve, rfl, hne, hbl⟩
                replace Rn := Lib.hid (Rn.out.below hbl)
                replace HNn := Lib.hid (HNn.out.below hbl)
                replace Ro := Lib.hid (Ro.out.below hbl)
                replace HNo := Lib.hid (HNo.out.below hbl)
                replace RN := Lib.hid (RN.out.below hbl)
                replace RES := Lib.hid (RES.out.below hbl RES.out.lt)
                replace CF := Lib.hid (CF.out.below hbl CF.out.lt)
                replace HW := Lib.hid (bel_trans HW.out hbl); clear hbl
                clear CF0 CF1 CF2
                have CF0 : w4.cell? ⟨w1.heap.size, 0, none⟩ = some (.int .i64 (p : Int)) := CF.out.cell 0
                have CF1 : w4.cell? ⟨w1.heap.size, 1, none⟩ = some (.int .i64 (q : Int)) := CF.out.cell 1
                have CF2 : w4.cell? ⟨w1.heap.size, 2, none⟩ = some (.int .i64 (t : Int)) := CF.out.cell 2
                have HNe := Lib.hid hne; clear hne
                obtain ⟨Ae, ce, rfl, hce, hre⟩ := HNe.out.row
                have Re := Lib.hid hre; have HCe := Lib.hid hce; clear hre hce
                have d0 : w4.cell? ⟨w.heap.size, 0, none⟩ = some (.bool false) := RES.out.cell 0
                have f0 : w4.frozen? ⟨w.heap.size, 0, none⟩ = false := RES.out.frozen 0
                have d1 : w4.cell? ⟨w.heap.size, 1, none⟩ = some (.slice none 0 0) := RES.out.cell 1
                have f1 : w4.frozen? ⟨w.heap.size, 1, none⟩ = false := RES.out.frozen 1
                have d2 : w4.cell? ⟨w.heap.size, 2, none⟩ = some (.slice none 0 0) := RES.out.cell 2
                have f2 : w4.frozen? ⟨w.heap.size, 2, none⟩ = false := RES.out.frozen 2
                have D := Lib.hid (And.intro (RES.out.put3 (.bool false) (.slice none 0 0) (.slice none 0 0)) (bel_set3 HW.out (Nat.le_refl _) (.bool false) (.slice none 0 0) (.slice none 0 0)))
                have N0 := Lib.hid (RdN.set3 RES.out (RdN.none0 _) (.bool false) (.slice none 0 0) (.slice none 0 0))
                have N1 := Lib.hid (RdN.set3 RES.out (RdN.none0 _) (.bool false) (.slice none 0 0) (.slice none 0 0))
                go_wp2
                refine bodyPost_ret (v := .tuple #[.agg #[.bool false, .slice none 0 0, .slice none 0 0], .int .i64 2]) ?hr8 rfl ?hR8
                case hR8 => exact RetVal.over (by have h1 := HL.out.1; have h2 := HFIT.out; have h3 := HP.out; omega) ⟨_, _, rfl, N0.out, N1.out, D.out.2⟩
                case hr8 => exact results_row_tmp rfl _ _ (w.heap.size) 25 _ (0, 0) _ _ rfl rfl D.out.1 Try.underlying25 rfl (by kernel_rfl)

set_option maxRecDepth 100000 in
set_option maxHeartbeats 1000000 in
theorem rvalue_long (N : Nat) (sz : Int) (p q t : Nat) (w : World) (hf : Fm sz p q t) (z1 : (sz == 32) = true) (hN : 4294967296 ≤ N) :
    Calls Try.prog 47 #[.int .u64 (N : Int), .int .i64 sz] w (RetQE noQ 1 w) := by
  have HF := Lib.hid hf; clear hf
  have g9 : ((N : Int) / 4294967296 != 0) = true := by simp only [bne_iff_ne, ne_eq]; omega
  clear hN
  obtain ⟨wa, hwa⟩ : ∃ wa, wa = w.alloc (.cells #[.bool false, .slice none 0 0, .slice none 0 0] 25) := ⟨_, rfl⟩
  have hbl : Below w.heap.size w wa := by rw [hwa]; exact bel_alloc (bel_refl _) _
  have RES : Blk wa (w.heap.size) 25 #[.bool false, .slice none 0 0, .slice none 0 0] := by
    have hz := Blk.new (w) 25 #[.bool false, .slice none 0 0, .slice none 0 0]
    rw [hwa]
    exact hz
  have HW := Lib.hid hbl; clear hbl
  replace RES := Lib.hid RES
  go_enter Try.func47, Try.ntmps47
  go_wp2_with fail
  rw [← hwa]
  clear hwa
  refine (forms_any _).mono ?_
  rintro e w1 ⟨rfl, hmap, hbl⟩
  replace RES := Lib.hid (RES.out.below hbl RES.out.lt)
  replace HW := Lib.hid (bel_trans HW.out hbl); clear hbl
  have hlk := look_form hmap HF.out
  clear hmap
  go_upto_region 2 with fail
  obtain ⟨wm, hwm⟩ : ∃ wm, wm = w1.alloc (.cells #[.int .i64 (p : Int), .int .i64 (q : Int), .int .i64 (t : Int)] 74) := ⟨_, rfl⟩
  rw [← hwm]
  have hbl : Below w1.heap.size w1 wm := by rw [hwm]; exact bel_alloc (bel_refl _) _
  have CF : Blk wm (w1.heap.size) 74 #[.int .i64 (p : Int), .int .i64 (q : Int), .int .i64 (t : Int)] := by
    have hz := Blk.new (w1) 74 #[.int .i64 (p : Int), .int .i64 (q : Int), .int .i64 (t : Int)]
    rw [hwm]
    exact hz
  clear hwm
  replace RES := Lib.hid (RES.out.below hbl RES.out.lt)
  replace HW := Lib.hid (bel_trans HW.out hbl); clear hbl
  replace CF := Lib.hid CF
  have CF0 : wm.cell? ⟨w1.heap.size, 0, none⟩ = some (.int .i64 (p : Int)) := CF.out.cell 0
  have CF1 : wm.cell? ⟨w1.heap.size, 1, none⟩ = some (.int .i64 (q : Int)) := CF.out.cell 1
  have CF2 : wm.cell? ⟨w1.heap.size, 2, none⟩ = some (.int .i64 (t : Int)) := CF.out.cell 2
  have d0 : wm.cell? ⟨w.heap.size, 0, none⟩ = some (.bool false) := RES.out.cell 0
  have f0 : wm.frozen? ⟨w.heap.size, 0, none⟩ = false := RES.out.frozen 0
  have d1 : wm.cell? ⟨w.heap.size, 1, none⟩ = some (.slice none 0 0) := RES.out.cell 1
  have f1 : wm.frozen? ⟨w.heap.size, 1, none⟩ = false := RES.out.frozen 1
  have d2 : wm.cell? ⟨w.heap.size, 2, none⟩ = some (.slice none 0 0) := RES.out.cell 2
  have f2 : wm.frozen? ⟨w.heap.size, 2, none⟩ = false := RES.out.frozen 2
  have D := Lib.hid (And.intro (RES.out.put3 (.bool false) (.slice none 0 0) (.slice none 0 0)) (bel_set3 HW.out (Nat.le_refl _) (.bool false) (.slice none 0 0) (.slice none 0 0)))
  have N0 := Lib.hid (RdN.set3 RES.out (RdN.none0 _) (.bool false) (.slice none 0 0) (.slice none 0 0))
  have N1 := Lib.hid (RdN.set3 RES.out (RdN.none0 _) (.bool false) (.slice none 0 0) (.slice none 0 0))
  go_wp2
  refine bodyPost_ret (v := .tuple #[.agg #[.bool false, .slice none 0 0, .slice none 0 0], .int .i64 1]) ?hr9 rfl ?hR9
  case hR9 => exact ⟨_, _, rfl, N0.out, N1.out, D.out.2⟩
  case hr9 => exact results_row_tmp rfl _ _ (w.heap.size) 25 _ (0, 0) _ _ rfl rfl D.out.1 Try.underlying25 rfl (by kernel_rfl)

set_option maxRecDepth 100000 in
set_option maxHeartbeats 1000000 in
theorem rvalue_minus_t (N : Nat) (sz : Int) (p q t : Nat) (w : World) (hf : Fm sz p q t) (z1 : (sz == 32) = true) (hN : N = 2 ^ (sz.toNat - 1)) :
    Calls Try.prog 47 #[.int .u64 (N : Int), .int .i64 sz] w (RetQE noQ 1 w) := by
  obtain rfl : sz = 32 := by simpa using z1
  obtain rfl : N = 2147483648 := hN
  clear z1
  have HF := Lib.hid hf; clear hf
  obtain ⟨wa, hwa⟩ : ∃ wa, wa = w.alloc (.cells #[.bool false, .slice none 0 0, .slice none 0 0] 25) := ⟨_, rfl⟩
  have hbl : Below w.heap.size w wa := by rw [hwa]; exact bel_alloc (bel_refl _) _
  have RES : Blk wa (w.heap.size) 25 #[.bool false, .slice none 0 0, .slice none 0 0] := by
    have hz := Blk.new (w) 25 #[.bool false, .slice none 0 0, .slice none 0 0]
    rw [hwa]
    exact hz
  have HW := Lib.hid hbl; clear hbl
  replace RES := Lib.hid RES
  go_enter Try.func47, Try.ntmps47
  go_wp2_with fail
  rw [← hwa]
  clear hwa
  refine (forms_any _).mono ?_
  rintro e w1 ⟨rfl, hmap, hbl⟩
  replace RES := Lib.hid (RES.out.below hbl RES.out.lt)
  replace HW := Lib.hid (bel_trans HW.out hbl); clear hbl
  have hlk := look_form hmap HF.out
  clear hmap
  go_upto_region 2 with fail
  obtain ⟨wm, hwm⟩ : ∃ wm, wm = w1.alloc (.cells #[.int .i64 (p : Int), .int .i64 (q : Int), .int .i64 (t : Int)] 74) := ⟨_, rfl⟩
  rw [← hwm]
  have hbl : Below w1.heap.size w1 wm := by rw [hwm]; exact bel_alloc (bel_refl _) _
  have CF : Blk wm (w1.heap.size) 74 #[.int .i64 (p : Int), .int .i64 (q : Int), .int .i64 (t : Int)] := by
    have hz := Blk.new (w1) 74 #[.int .i64 (p : Int), .int .i64 (q : Int), .int .i64 (t : Int)]
    rw [hwm]
    exact hz
  clear hwm
  replace RES := Lib.hid (RES.out.below hbl RES.out.lt)
  replace HW := Lib.hid (bel_trans HW.out hbl); clear hbl
  replace CF := Lib.hid CF
  have CF0 : wm.cell? ⟨w1.heap.size, 0, none⟩ = some (.int .i64 (p : Int)) := CF.out.cell 0
  have CF1 : wm.cell? ⟨w1.heap.size, 1, none⟩ = some (.int .i64 (q : Int)) := CF.out.cell 1
  have CF2 : wm.cell? ⟨w1.heap.size, 2, none⟩ = some (.int .i64 (t : Int)) := CF.out.cell 2
  have d0 : wm.cell? ⟨w.heap.size, 0, none⟩ = some (.bool false) := RES.out.cell 0
  have f0 : wm.frozen? ⟨w.heap.size, 0, none⟩ = false := RES.out.frozen 0
  have d1 : wm.cell? ⟨w.heap.size, 1, none⟩ = some (.slice none 0 0) := RES.out.cell 1
  have f1 : wm.frozen? ⟨w.heap.size, 1, none⟩ = false := RES.out.frozen 1
  have d2 : wm.cell? ⟨w.heap.size, 2, none⟩ = some (.slice none 0 0) := RES.out.cell 2
  have f2 : wm.frozen? ⟨w.heap.size, 2, none⟩ = false := RES.out.frozen 2
  have D := Lib.hid (And.intro (RES.out.put3 (.bool false) (.slice none 0 0) (.slice none 0 0)) (bel_set3 HW.out (Nat.le_refl _) (.bool false) (.slice none 0 0) (.slice none 0 0)))
  have N0 := Lib.hid (RdN.set3 RES.out (RdN.none0 _) (.bool false) (.slice none 0 0) (.slice none 0 0))
  have N1 := Lib.hid (RdN.set3 RES.out (RdN.none0 _) (.bool false) (.slice none 0 0) (.slice none 0 0))
  go_wp2
  refine bodyPost_ret (v := .tuple #[.agg #[.bool false, .slice none 0 0, .slice none 0 0], .int .i64 1]) ?hr10 rfl ?hR10
  case hR10 => exact ⟨_, _, rfl, N0.out, N1.out, D.out.2⟩
  case hr10 => exact results_row_tmp rfl _ _ (w.heap.size) 25 _ (0, 0) _ _ rfl rfl D.out.1 Try.underlying25 rfl (by kernel_rfl)

set_option maxRecDepth 100000 in
set_option maxHeartbeats 1000000 in
theorem rvalue_ones_t (N : Nat) (sz : Int) (p q t b : Nat) (s : Bool) (w : World) (hf : Fm sz p q t) (z1 : (sz == 32) = true) (h32 : N < 4294967296) (hb : b < 2 ^ (sz.toNat - 1)) (hs : b = 0 → s = false) (h1 : b / 2 ^ (p - 1) = t + q + 2) (hN : N = b + s.toNat * 2 ^ (sz.toNat - 1)) :
    Calls Try.prog 47 #[.int .u64 (N : Int), .int .i64 sz] w (RetQE noQ 1 w) := by
  obtain ⟨op1, op2, oq0, oq, ot, os1, os2⟩ := hf.ok
  obtain ⟨z, hz3⟩ : ∃ z : Nat, sz = (z : Int) + 1 := ⟨sz.toNat - 1, by omega⟩
  obtain ⟨ew, hw1, hw2, hw3, hw4, hw5⟩ := hf.wide hz3
  have HF := Lib.hid hf; clear hf
  obtain ⟨Z, hZ⟩ : ∃ Z, Z = 2 ^ z := ⟨_, rfl⟩
  obtain ⟨H, hH⟩ : ∃ H, H = 2 ^ (p - 1) := ⟨_, rfl⟩
  obtain ⟨X, hX⟩ : ∃ X, X = 2 ^ ew := ⟨_, rfl⟩
  have hZH : Z = H * X := by rw [hZ, hH, hX, ← Nat.pow_add, hw1]
  have hH0 : 0 < H := by rw [hH]; exact Nat.pow_pos (by decide)
  have hH1 : H ≤ 4503599627370496 := by rw [hH]; exact Nat.pow_le_pow_right (n := 2) (j := 52) (by decide) (by omega)
  have hX1 : X ≤ 2048 := by rw [hX]; exact Nat.pow_le_pow_right (n := 2) (j := 11) (by decide) hw4
  have hZ1 : Z ≤ 9223372036854775808 := by rw [hZ]; exact Nat.pow_le_pow_right (n := 2) (j := 63) (by decide) hw5
  have hz9 : sz.toNat - 1 = z := by omega
  rw [hz9, ← hZ] at hN
  have g1 : IntKind.i64.wrap (sz - 1) = (z : Int) := by rw [IntKind.wrap_i64]; omega
  have g2 : min z 64 = z := by omega
  have g3 : (2 : Int) ^ z = (Z : Int) := by rw [hZ, Int.natCast_pow]; rfl
  have g4 : IntKind.u64.wrap (Z : Int) = (Z : Int) := by rw [IntKind.wrap_u64]; omega
  have HZ1 := Lib.hid (And.intro z1 (And.intro h32 (And.intro hZ hz3))); clear z1 h32
  have hbZ : b < Z := by rw [hz9, ← hZ] at hb; exact hb
  have hNZ : N ≠ Z := by
    cases s
    · rw [hN]; simp; omega
    · have : b ≠ 0 := fun h => by have := hs h; cases this
      rw [hN]; simp; omega
  have hNZ2 : N < 18446744073709551616 := by
    rw [hN]
    cases s
    · simp; omega
    · simp; omega
  have g5 : ((N : Int) == (Z : Int)) = false := by simp only [beq_eq_false_iff_ne, ne_eq]; omega
  have g6 : ¬ (N : Int) = (Z : Int) := by omega
  obtain ⟨r1, r2, r3⟩ := parts (s := s.toNat) hbZ hZH hH0
  rw [← hN] at r1 r2 r3
  obtain ⟨x, hx⟩ : ∃ x, x = b / H := ⟨_, rfl⟩
  obtain ⟨m0, hm0⟩ : ∃ m, m = b % H := ⟨_, rfl⟩
  rw [← hm0] at r2
  rw [← hx] at r3
  have hm1 : m0 < H := by rw [hm0]; exact Nat.mod_lt _ hH0
  have hxX : x < X := by rw [hx, Nat.div_lt_iff_lt_mul hH0, Nat.mul_comm, ← hZH]; exact hbZ
  have g7 : (N : Int) / (Z : Int) = ((s.toNat : Nat) : Int) := by rw [← r1]; exact (Int.natCast_ediv N Z).symm
  have g8 : (((s.toNat : Nat) : Int) == 1) = s := b_eq s
  obtain ⟨J, hJ⟩ : ∃ J, J = N / H := ⟨_, rfl⟩
  rw [← hJ] at r3
  obtain ⟨H1, hH2⟩ : ∃ H1, H1 = H - 1 := ⟨_, rfl⟩
  obtain ⟨K, hK⟩ : ∃ K, K = t + q + 2 := ⟨_, rfl⟩
  have hKX : X = K + 1 := by rw [hK, hX]; omega
  have hJN : J ≤ N := by rw [hJ]; exact Nat.div_le_self _ _
  have k1 : IntKind.i64.wrap ((p : Int) - 1) = ((p - 1 : Nat) : Int) := by rw [IntKind.wrap_i64]; omega
  have k2 : min (p - 1) 64 = p - 1 := by omega
  have k3 : (2 : Int) ^ (p - 1) = (H : Int) := by rw [hH, Int.natCast_pow]; rfl
  have k4 : IntKind.u64.wrap (H : Int) = (H : Int) := by rw [IntKind.wrap_u64]; omega
  have k5 : IntKind.u64.wrap ((H : Int) - 1) = (H1 : Int) := by rw [IntKind.wrap_u64]; omega
  have k6 : bits BinOp.and IntKind.u64 (N : Int) (H1 : Int) = (m0 : Int) := by rw [u64_and_nat _ _ hNZ2 (by omega), hH2, hH, Nat.and_two_pow_sub_one_eq_mod, ← hH, r2]
  have k7 : (N : Int) / (H : Int) = (J : Int) := by rw [hJ]; exact (Int.natCast_ediv N H).symm
  have k8 : IntKind.i64.wrap (sz - (p : Int)) = (ew : Int) := by rw [IntKind.wrap_i64]; omega
  have k9 : min ew 64 = ew := by omega
  have k10 : (2 : Int) ^ ew = (X : Int) := by rw [hX, Int.natCast_pow]; rfl
  have k11 : IntKind.u64.wrap (X : Int) = (X : Int) := by rw [IntKind.wrap_u64]; omega
  have k12 : IntKind.u64.wrap ((X : Int) - 1) = (K : Int) := by rw [IntKind.wrap_u64]; omega
  have k13 : bits BinOp.and IntKind.u64 (J : Int) (K : Int) = (x : Int) := by rw [u64_and_nat _ _ (by omega) (by omega), show K = 2 ^ ew - 1 by omega, Nat.and_two_pow_sub_one_eq_mod, ← hX, r3]
  have k14 : IntKind.i64.wrap (x : Int) = (x : Int) := by rw [IntKind.wrap_i64]; omega
  have k15 : IntKind.i64.wrap (X : Int) = (X : Int) := by rw [IntKind.wrap_i64]; omega
  have k16 : IntKind.i64.wrap ((X : Int) - 1) = (K : Int) := by rw [IntKind.wrap_i64]; omega
  have k17 : IntKind.u64.wrap (x : Int) = (x : Int) := by rw [IntKind.wrap_u64]; omega
  have HX9 := Lib.hid hX1
  have HM := Lib.hid (And.intro hm0 (And.intro hx (And.intro hH (And.intro hm1 (And.intro hxX (And.intro hKX hK)))))); clear hm0 hx hm1 hxX hKX hK
  clear r1 r2 r3 hJ hJN hNZ hNZ2 hbZ hN hZH hH0 hX1 hZ1 hz9 hw1 hw2 hw3 hX hH2 hZ hH hz3
  obtain ⟨wa, hwa⟩ : ∃ wa, wa = w.alloc (.cells #[.bool false, .slice none 0 0, .slice none 0 0] 25) := ⟨_, rfl⟩
  have hbl : Below w.heap.size w wa := by rw [hwa]; exact bel_alloc (bel_refl _) _
  have RES : Blk wa (w.heap.size) 25 #[.bool false, .slice none 0 0, .slice none 0 0] := by
    have hz := Blk.new (w) 25 #[.bool false, .slice none 0 0, .slice none 0 0]
    rw [hwa]
    exact hz
  have HW := Lib.hid hbl; clear hbl
  replace RES := Lib.hid RES
  go_enter Try.func47, Try.ntmps47
  go_wp2_with fail
  rw [← hwa]
  clear hwa
  refine (forms_any _).mono ?_
  rintro e w1 ⟨rfl, hmap, hbl⟩
  replace RES := Lib.hid (RES.out.below hbl RES.out.lt)
  replace HW := Lib.hid (bel_trans HW.out hbl); clear hbl
  have hlk := look_form hmap HF.out
  clear hmap
  go_upto_region 2 with fail
  obtain ⟨wm, hwm⟩ : ∃ wm, wm = w1.alloc (.cells #[.int .i64 (p : Int), .int .i64 (q : Int), .int .i64 (t : Int)] 74) := ⟨_, rfl⟩
  rw [← hwm]
  have hbl : Below w1.heap.size w1 wm := by rw [hwm]; exact bel_alloc (bel_refl _) _
  have CF : Blk wm (w1.heap.size) 74 #[.int .i64 (p : Int), .int .i64 (q : Int), .int .i64 (t : Int)] := by
    have hz := Blk.new (w1) 74 #[.int .i64 (p : Int), .int .i64 (q : Int), .int .i64 (t : Int)]
    rw [hwm]
    exact hz
  clear hwm
  replace RES := Lib.hid (RES.out.below hbl RES.out.lt)
  replace HW := Lib.hid (bel_trans HW.out hbl); clear hbl
  replace CF := Lib.hid CF
  have CF0 : wm.cell? ⟨w1.heap.size, 0, none⟩ = some (.int .i64 (p : Int)) := CF.out.cell 0
  have CF1 : wm.cell? ⟨w1.heap.size, 1, none⟩ = some (.int .i64 (q : Int)) := CF.out.cell 1
  have CF2 : wm.cell? ⟨w1.heap.size, 2, none⟩ = some (.int .i64 (t : Int)) := CF.out.cell 2
  go_cut [37] (fun v wx => v = .bool false ∧ wx = wm)
  case first =>
    obtain ⟨z1, h32, hZ, hz3⟩ := HZ1.out
    obtain rfl : sz = 32 := by simpa using z1
    obtain rfl : z = 31 := by omega
    rw [show (2 : Nat) ^ 31 = 2147483648 from rfl] at hZ
    subst hZ
    have g9 : (N : Int) / 4294967296 = 0 := by omega
    have g55 : ((N : Int) == 2147483648) = false := g5
    clear z1 h32 hz3 g1 g2 g3 g4 g7
    go_wp2_with fail
    go_meet
    exact ⟨rfl, rfl⟩
  case rest =>
    obtain ⟨rfl, rfl⟩ := hcut
    go_upto_region 5 with fail
    refine wp_region_typed 22 (TOf [VIs (.int .u64 (N : Int)),
        VIs (.pointer (some ⟨w1.heap.size, 0, none⟩)),
        VIs (.int .i64 (p : Int)),
        VIs (.int .i64 ((p - 1 : Nat) : Int)),
        VIs (.int .u64 (H : Int)),
        VIs (.int .u64 (H1 : Int)),
        VIs (.int .u64 (m0 : Int)),
        VIs (.int .u64 (N : Int)),
        VIs (.pointer (some ⟨w1.heap.size, 0, none⟩)),
        VIs (.int .i64 (p : Int)),
        VIs (.int .i64 ((p - 1 : Nat) : Int)),
        VIs (.int .u64 (J : Int)),
        VIs (.int .i64 sz),
        VIs (.pointer (some ⟨w1.heap.size, 0, none⟩)),
        VIs (.int .i64 (p : Int)),
        VIs (.int .i64 (ew : Int)),
        VIs (.int .u64 (X : Int)),
        VIs (.int .u64 (K : Int)),
        VIs (.int .u64 (x : Int)),
        VIs (.int .i64 (x : Int)),
        VIs (.int .u64 (m0 : Int)),
        VIs (.int .i64 (x : Int))]) (by kernel_rfl) (by kernel_rfl) (by kernel_rfl) (LiftAll.at_ (.cons (VIs.lift _) (.cons (VIs.lift _) (.cons (VIs.lift _) (.cons (VIs.lift _) (.cons (VIs.lift _) (.cons (VIs.lift _) (.cons (VIs.lift _) (.cons (VIs.lift _) (.cons (VIs.lift _) (.cons (VIs.lift _) (.cons (VIs.lift _) (.cons (VIs.lift _) (.cons (VIs.lift _) (.cons (VIs.lift _) (.cons (VIs.lift _) (.cons (VIs.lift _) (.cons (VIs.lift _) (.cons (VIs.lift _) (.cons (VIs.lift _) (.cons (VIs.lift _) (.cons (VIs.lift _) (.cons (VIs.lift _) .nil))))))))))))))))))))))) (steps_all (steps_cons ?_ (steps_cons ?_ (steps_cons ?_ (steps_cons ?_ (steps_cons ?_ (steps_cons ?_ (steps_cons ?_ (steps_cons ?_ (steps_cons ?_ (steps_cons ?_ (steps_cons ?_ (steps_cons ?_ (steps_cons ?_ (steps_cons ?_ (steps_cons ?_ (steps_cons ?_ (steps_cons ?_ (steps_cons ?_ (steps_cons ?_ (steps_cons ?_ (steps_cons ?_ (steps_cons ?_ steps_zero))))))))))))))))))))))) ?fin
    · intro a0 w9 K9 hF hB hK hC
      have b0 := hF.base (k := 0) (v := .int .u64 (N : Int)) (by kernel_rfl) rfl
      clear hF hB hK
      go_simp
      exact hC _ _ (bel_refl _) fun _ _ => rfl
    · intro a0 w9 K9 hF hB hK hC
      have b6 := hF.base (k := 6) (v := .pointer (some ⟨w1.heap.size, 0, none⟩)) (by kernel_rfl) rfl
      clear hF hB hK
      go_simp
      exact hC _ _ (bel_refl _) fun _ _ => rfl
    · intro a0 w9 K9 hF hB hK hC
      obtain ⟨v45, e45, z45⟩ := dep hK 0 (g := .data) (j := 1) (k := 45) rfl rfl rfl
      have z45 : v45 = .pointer (some ⟨w1.heap.size, 0, none⟩) := z45
      subst z45
      have x9 : w9.cell? ⟨w1.heap.size, 0, none⟩ = some (.int .i64 (p : Int)) := (CF.out.below hB CF.out.lt).cell 0
      clear hF hB hK
      go_simp
      exact hC _ _ (bel_refl _) fun _ _ => rfl
    · intro a0 w9 K9 hF hB hK hC
      obtain ⟨v46, e46, z46⟩ := dep hK 0 (g := .data) (j := 2) (k := 46) rfl rfl rfl
      have z46 : v46 = .int .i64 (p : Int) := z46
      subst z46
      have HB9 := Lib.hid hB
      clear hF hB hK
      go_simp
      exact hC _ _ (bel_refl _) fun _ _ => rfl
    · intro a0 w9 K9 hF hB hK hC
      obtain ⟨v47, e47, z47⟩ := dep hK 0 (g := .data) (j := 3) (k := 47) rfl rfl rfl
      have z47 : v47 = .int .i64 ((p - 1 : Nat) : Int) := z47
      subst z47
      have HB9 := Lib.hid hB
      clear hF hB hK
      go_simp
      exact hC _ _ (bel_refl _) fun _ _ => rfl
    · intro a0 w9 K9 hF hB hK hC
      obtain ⟨v48, e48, z48⟩ := dep hK 0 (g := .data) (j := 4) (k := 48) rfl rfl rfl
      have z48 : v48 = .int .u64 (H : Int) := z48
      subst z48
      have HB9 := Lib.hid hB
      clear hF hB hK
      go_simp
      exact hC _ _ (bel_refl _) fun _ _ => rfl
    · intro a0 w9 K9 hF hB hK hC
      obtain ⟨v44, e44, z44⟩ := dep hK 0 (g := .data) (j := 0) (k := 44) rfl rfl rfl
      have z44 : v44 = .int .u64 (N : Int) := z44
      subst z44
      obtain ⟨v49, e49, z49⟩ := dep hK 1 (g := .data) (j := 5) (k := 49) rfl rfl rfl
      have z49 : v49 = .int .u64 (H1 : Int) := z49
      subst z49
      have HB9 := Lib.hid hB
      clear hF hB hK
      go_simp
      exact hC _ _ (bel_refl _) fun _ _ => rfl
    · intro a0 w9 K9 hF hB hK hC
      have b0 := hF.base (k := 0) (v := .int .u64 (N : Int)) (by kernel_rfl) rfl
      clear hF hB hK
      go_simp
      exact hC _ _ (bel_refl _) fun _ _ => rfl
    · intro a0 w9 K9 hF hB hK hC
      have b6 := hF.base (k := 6) (v := .pointer (some ⟨w1.heap.size, 0, none⟩)) (by kernel_rfl) rfl
      clear hF hB hK
      go_simp
      exact hC _ _ (bel_refl _) fun _ _ => rfl
    · intro a0 w9 K9 hF hB hK hC
      obtain ⟨v52, e52, z52⟩ := dep hK 0 (g := .data) (j := 8) (k := 52) rfl rfl rfl
      have z52 : v52 = .pointer (some ⟨w1.heap.size, 0, none⟩) := z52
      subst z52
      have x9 : w9.cell? ⟨w1.heap.size, 0, none⟩ = some (.int .i64 (p : Int)) := (CF.out.below hB CF.out.lt).cell 0
      clear hF hB hK
      go_simp
      exact hC _ _ (bel_refl _) fun _ _ => rfl
    · intro a0 w9 K9 hF hB hK hC
      obtain ⟨v53, e53, z53⟩ := dep hK 0 (g := .data) (j := 9) (k := 53) rfl rfl rfl
      have z53 : v53 = .int .i64 (p : Int) := z53
      subst z53
      have HB9 := Lib.hid hB
      clear hF hB hK
      go_simp
      exact hC _ _ (bel_refl _) fun _ _ => rfl
    · intro a0 w9 K9 hF hB hK hC
      obtain ⟨v51, e51, z51⟩ := dep hK 0 (g := .data) (j := 7) (k := 51) rfl rfl rfl
      have z51 : v51 = .int .u64 (N : Int) := z51
      subst z51
      obtain ⟨v54, e54, z54⟩ := dep hK 1 (g := .data) (j := 10) (k := 54) rfl rfl rfl
      have z54 : v54 = .int .i64 ((p - 1 : Nat) : Int) := z54
      subst z54
      have HB9 := Lib.hid hB
      clear hF hB hK
      go_simp
      exact hC _ _ (bel_refl _) fun _ _ => rfl
    · intro a0 w9 K9 hF hB hK hC
      have b1 := hF.base (k := 1) (v := .int .i64 sz) (by kernel_rfl) rfl
      clear hF hB hK
      go_simp
      exact hC _ _ (bel_refl _) fun _ _ => rfl
    · intro a0 w9 K9 hF hB hK hC
      have b6 := hF.base (k := 6) (v := .pointer (some ⟨w1.heap.size, 0, none⟩)) (by kernel_rfl) rfl
      clear hF hB hK
      go_simp
      exact hC _ _ (bel_refl _) fun _ _ => rfl
    · intro a0 w9 K9 hF hB hK hC
      obtain ⟨v57, e57, z57⟩ := dep hK 0 (g := .data) (j := 13) (k := 57) rfl rfl rfl
      have z57 : v57 = .pointer (some ⟨w1.heap.size, 0, none⟩) := z57
      subst z57
      have x9 : w9.cell? ⟨w1.heap.size, 0, none⟩ = some (.int .i64 (p : Int)) := (CF.out.below hB CF.out.lt).cell 0
      clear hF hB hK
      go_simp
      exact hC _ _ (bel_refl _) fun _ _ => rfl
    · intro a0 w9 K9 hF hB hK hC
      obtain ⟨v56, e56, z56⟩ := dep hK 0 (g := .data) (j := 12) (k := 56) rfl rfl rfl
      have z56 : v56 = .int .i64 sz := z56
      subst z56
      obtain ⟨v58, e58, z58⟩ := dep hK 1 (g := .data) (j := 14) (k := 58) rfl rfl rfl
      have z58 : v58 = .int .i64 (p : Int) := z58
      subst z58
      have HB9 := Lib.hid hB
      clear hF hB hK
      go_simp
      exact hC _ _ (bel_refl _) fun _ _ => rfl
    · intro a0 w9 K9 hF hB hK hC
      obtain ⟨v59, e59, z59⟩ := dep hK 0 (g := .data) (j := 15) (k := 59) rfl rfl rfl
      have z59 : v59 = .int .i64 (ew : Int) := z59
      subst z59
      have HB9 := Lib.hid hB
      clear hF hB hK
      go_simp
      exact hC _ _ (bel_refl _) fun _ _ => rfl
    · intro a0 w9 K9 hF hB hK hC
      obtain ⟨v60, e60, z60⟩ := dep hK 0 (g := .data) (j := 16) (k := 60) rfl rfl rfl
      have z60 : v60 = .int .u64 (X : Int) := z60
      subst z60
      have HB9 := Lib.hid hB
      clear hF hB hK
      go_simp
      exact hC _ _ (bel_refl _) fun _ _ => rfl
    · intro a0 w9 K9 hF hB hK hC
      obtain ⟨v55, e55, z55⟩ := dep hK 0 (g := .data) (j := 11) (k := 55) rfl rfl rfl
      have z55 : v55 = .int .u64 (J : Int) := z55
      subst z55
      obtain ⟨v61, e61, z61⟩ := dep hK 1 (g := .data) (j := 17) (k := 61) rfl rfl rfl
      have z61 : v61 = .int .u64 (K : Int) := z61
      subst z61
      have HB9 := Lib.hid hB
      clear hF hB hK
      go_simp
      exact hC _ _ (bel_refl _) fun _ _ => rfl
    · intro a0 w9 K9 hF hB hK hC
      obtain ⟨v62, e62, z62⟩ := dep hK 0 (g := .data) (j := 18) (k := 62) rfl rfl rfl
      have z62 : v62 = .int .u64 (x : Int) := z62
      subst z62
      have HB9 := Lib.hid hB
      clear hF hB hK
      go_simp
      exact hC _ _ (bel_refl _) fun _ _ => rfl
    · intro a0 w9 K9 hF hB hK hC
      obtain ⟨v50, e50, z50⟩ := dep hK 0 (g := .data) (j := 6) (k := 50) rfl rfl rfl
      have z50 : v50 = .int .u64 (m0 : Int) := z50
      subst z50
      clear hF hB hK
      go_simp
      exact hC _ _ (bel_refl _) fun _ _ => rfl
    · intro a0 w9 K9 hF hB hK hC
      obtain ⟨v63, e63, z63⟩ := dep hK 0 (g := .data) (j := 19) (k := 63) rfl rfl rfl
      have z63 : v63 = .int .i64 (x : Int) := z63
      subst z63
      clear hF hB hK
      go_simp
      exact hC _ _ (bel_refl _) fun _ _ => rfl
    case fin =>
      intro a0 w9 hF hB hK
      have b0 := hF.base (k := 0) (v := .int .u64 (N : Int)) (by kernel_rfl) rfl
      have b1 := hF.base (k := 1) (v := .int .i64 sz) (by kernel_rfl) rfl
      have b4 := hF.base (k := 4) (v := .pointer (some ⟨w.heap.size, 0, none⟩)) (by kernel_rfl) rfl
      have b5 := hF.base (k := 5) (v := .int .i64 0) (by kernel_rfl) rfl
      have b6 := hF.base (k := 6) (v := .pointer (some ⟨w1.heap.size, 0, none⟩)) (by kernel_rfl) rfl
      have b8 := hF.base (k := 8) (v := .bool s) (by kernel_rfl) rfl
      have hsz := hF.size
      have hdf := hF.defers
      clear hF
      obtain ⟨v9, e9, z9⟩ := known hK 20 (k := 9) (by decide) rfl
      have z9 : v9 = .int .u64 (m0 : Int) := z9
      subst z9
      obtain ⟨v10, e10, z10⟩ := known hK 21 (k := 10) (by decide) rfl
      have z10 : v10 = .int .i64 (x : Int) := z10
      subst z10
      clear hK
      obtain ⟨⟨l0⟩, df⟩ := a0
      have hs0 : l0.length = 132 := hsz
      clear hsz
      replace hdf : df = _ := hdf
      subst hdf
      obtain ⟨u, rfl⟩ := lits_132 hs0
      clear hs0
      generalize hAr : (Array.mk [u 0, u 1, u 2, u 3, u 4, u 5, u 6, u 7, u 8, u 9, u 10, u 11, u 12, u 13, u 14, u 15, u 16, u 17, u 18, u 19, u 20, u 21, u 22, u 23, u 24, u 25, u 26, u 27, u 28, u 29, u 30, u 31, u 32, u 33, u 34, u 35, u 36, u 37, u 38, u 39, u 40, u 41, u 42, u 43, u 44, u 45, u 46, u 47, u 48, u 49, u 50, u 51, u 52, u 53, u 54, u 55, u 56, u 57, u 58, u 59, u 60, u 61, u 62, u 63, u 64, u 65, u 66, u 67, u 68, u 69, u 70, u 71, u 72, u 73, u 74, u 75, u 76, u 77, u 78, u 79, u 80, u 81, u 82, u 83, u 84, u 85, u 86, u 87, u 88, u 89, u 90, u 91, u 92, u 93, u 94, u 95, u 96, u 97, u 98, u 99, u 100, u 101, u 102, u 103, u 104, u 105, u 106, u 107, u 108, u 109, u 110, u 111, u 112, u 113, u 114, u 115, u 116, u 117, u 118, u 119, u 120, u 121, u 122, u 123, u 124, u 125, u 126, u 127, u 128, u 129, u 130, u 131] : Array Value) = ar
      obtain rfl : ar = #[u 0, u 1, u 2, u 3, u 4, u 5, u 6, u 7, u 8, u 9, u 10, u 11, u 12, u 13, u 14, u 15, u 16, u 17, u 18, u 19, u 20, u 21, u 22, u 23, u 24, u 25, u 26, u 27, u 28, u 29, u 30, u 31, u 32, u 33, u 34, u 35, u 36, u 37, u 38, u 39, u 40, u 41, u 42, u 43, u 44, u 45, u 46, u 47, u 48, u 49, u 50, u 51, u 52, u 53, u 54, u 55, u 56, u 57, u 58, u 59, u 60, u 61, u 62, u 63, u 64, u 65, u 66, u 67, u 68, u 69, u 70, u 71, u 72, u 73, u 74, u 75, u 76, u 77, u 78, u 79, u 80, u 81, u 82, u 83, u 84, u 85, u 86, u 87, u 88, u 89, u 90, u 91, u 92, u 93, u 94, u 95, u 96, u 97, u 98, u 99, u 100, u 101, u 102, u 103, u 104, u 105, u 106, u 107, u 108, u 109, u 110, u 111, u 112, u 113, u 114, u 115, u 116, u 117, u 118, u 119, u 120, u 121, u 122, u 123, u 124, u 125, u 126, u 127, u 128, u 129, u 130, u 131] := hAr.symm
      have q0 : u 0 = _ := Option.some.inj b0
      clear b0
      have q1 : u 1 = _ := Option.some.inj b1
      clear b1
      have q4 : u 4 = _ := Option.some.inj b4
      clear b4
      have q5 : u 5 = _ := Option.some.inj b5
      clear b5
      have q6 : u 6 = _ := Option.some.inj b6
      clear b6
      have q8 : u 8 = _ := Option.some.inj b8
      clear b8
      have q9 : u 9 = _ := Option.some.inj e9
      clear e9
      have q10 : u 10 = _ := Option.some.inj e10
      clear e10
      rw [q0, q1, q4, q5, q6, q8, q9, q10]
      clear q0 q1 q4 q5 q6 q8 q9 q10
      have hbl := hB; clear hB
      replace RES := Lib.hid (RES.out.below hbl RES.out.lt)
      replace CF := Lib.hid (CF.out.below hbl CF.out.lt)
      replace HW := Lib.hid (bel_trans HW.out hbl); clear hbl
      clear CF0 CF1 CF2
      have CF0 : w9.cell? ⟨w1.heap.size, 0, none⟩ = some (.int .i64 (p : Int)) := CF.out.cell 0
      have CF1 : w9.cell? ⟨w1.heap.size, 1, none⟩ = some (.int .i64 (q : Int)) := CF.out.cell 1
      have CF2 : w9.cell? ⟨w1.heap.size, 2, none⟩ = some (.int .i64 (t : Int)) := CF.out.cell 2
      refine wpList_nil ?_
      have hxK : x = K := by rw [HM.out.2.1, HM.out.2.2.1, HM.out.2.2.2.2.2.2]; exact h1
      have HX := Lib.hid hxK
      subst hxK
      have d0 : w9.cell? ⟨w.heap.size, 0, none⟩ = some (.bool false) := RES.out.cell 0
      have f0 : w9.frozen? ⟨w.heap.size, 0, none⟩ = false := RES.out.frozen 0
      have d1 : w9.cell? ⟨w.heap.size, 1, none⟩ = some (.slice none 0 0) := RES.out.cell 1
      have f1 : w9.frozen? ⟨w.heap.size, 1, none⟩ = false := RES.out.frozen 1
      have d2 : w9.cell? ⟨w.heap.size, 2, none⟩ = some (.slice none 0 0) := RES.out.cell 2
      have f2 : w9.frozen? ⟨w.heap.size, 2, none⟩ = false := RES.out.frozen 2
      have D := Lib.hid (And.intro (RES.out.put3 (.bool false) (.slice none 0 0) (.slice none 0 0)) (bel_set3 HW.out (Nat.le_refl _) (.bool false) (.slice none 0 0) (.slice none 0 0)))
      have N0 := Lib.hid (RdN.set3 RES.out (RdN.none0 _) (.bool false) (.slice none 0 0) (.slice none 0 0))
      have N1 := Lib.hid (RdN.set3 RES.out (RdN.none0 _) (.bool false) (.slice none 0 0) (.slice none 0 0))
      go_wp2
      refine bodyPost_ret (v := .tuple #[.agg #[.bool false, .slice none 0 0, .slice none 0 0], .int .i64 1]) ?hr11 rfl ?hR11
      case hR11 => exact ⟨_, _, rfl, N0.out, N1.out, D.out.2⟩
      case hr11 => exact results_row_tmp rfl _ _ (w.heap.size) 25 _ (0, 0) _ _ rfl rfl D.out.1 Try.underlying25 rfl (by kernel_rfl)

set_option maxRecDepth 100000 in
set_option maxHeartbeats 1000000 in
theorem rvalue_good_t (N : Nat) (sz : Int) (p q t b : Nat) (s : Bool) (w : World) (hf : Fm sz p q t) (z1 : (sz == 32) = true) (h32 : N < 4294967296) (hb : ¬ (t + q + 2) * 2 ^ (p - 1) ≤ b) (hs : b = 0 → s = false) (hN : N = b + s.toNat * 2 ^ (sz.toNat - 1)) :
    Calls Try.prog 47 #[.int .u64 (N : Int), .int .i64 sz] w (RetVal s p q b w) := by
  obtain ⟨op1, op2, oq0, oq, ot, os1, os2⟩ := hf.ok
  obtain ⟨z, hz3⟩ : ∃ z : Nat, sz = (z : Int) + 1 := ⟨sz.toNat - 1, by omega⟩
  obtain ⟨ew, hw1, hw2, hw3, hw4, hw5⟩ := hf.wide hz3
  have HF := Lib.hid hf; clear hf
  obtain ⟨Z, hZ⟩ : ∃ Z, Z = 2 ^ z := ⟨_, rfl⟩
  obtain ⟨H, hH⟩ : ∃ H, H = 2 ^ (p - 1) := ⟨_, rfl⟩
  obtain ⟨X, hX⟩ : ∃ X, X = 2 ^ ew := ⟨_, rfl⟩
  have hZH : Z = H * X := by rw [hZ, hH, hX, ← Nat.pow_add, hw1]
  have hH0 : 0 < H := by rw [hH]; exact Nat.pow_pos (by decide)
  have hH1 : H ≤ 4503599627370496 := by rw [hH]; exact Nat.pow_le_pow_right (n := 2) (j := 52) (by decide) (by omega)
  have hX1 : X ≤ 2048 := by rw [hX]; exact Nat.pow_le_pow_right (n := 2) (j := 11) (by decide) hw4
  have hZ1 : Z ≤ 9223372036854775808 := by rw [hZ]; exact Nat.pow_le_pow_right (n := 2) (j := 63) (by decide) hw5
  have hz9 : sz.toNat - 1 = z := by omega
  rw [hz9, ← hZ] at hN
  have g1 : IntKind.i64.wrap (sz - 1) = (z : Int) := by rw [IntKind.wrap_i64]; omega
  have g2 : min z 64 = z := by omega
  have g3 : (2 : Int) ^ z = (Z : Int) := by rw [hZ, Int.natCast_pow]; rfl
  have g4 : IntKind.u64.wrap (Z : Int) = (Z : Int) := by rw [IntKind.wrap_u64]; omega
  have HZ1 := Lib.hid (And.intro z1 (And.intro h32 (And.intro hZ hz3))); clear z1 h32
  have hbZ : b < Z := by rw [hZ]; exact fit_code HF.out hz3 hb
  have hNZ : N ≠ Z := by
    cases s
    · rw [hN]; simp; omega
    · have : b ≠ 0 := fun h => by have := hs h; cases this
      rw [hN]; simp; omega
  have hNZ2 : N < 18446744073709551616 := by
    rw [hN]
    cases s
    · simp; omega
    · simp; omega
  have g5 : ((N : Int) == (Z : Int)) = false := by simp only [beq_eq_false_iff_ne, ne_eq]; omega
  have g6 : ¬ (N : Int) = (Z : Int) := by omega
  obtain ⟨r1, r2, r3⟩ := parts (s := s.toNat) hbZ hZH hH0
  rw [← hN] at r1 r2 r3
  obtain ⟨x, hx⟩ : ∃ x, x = b / H := ⟨_, rfl⟩
  obtain ⟨m0, hm0⟩ : ∃ m, m = b % H := ⟨_, rfl⟩
  rw [← hm0] at r2
  rw [← hx] at r3
  have hm1 : m0 < H := by rw [hm0]; exact Nat.mod_lt _ hH0
  have hxX : x < X := by rw [hx, Nat.div_lt_iff_lt_mul hH0, Nat.mul_comm, ← hZH]; exact hbZ
  have g7 : (N : Int) / (Z : Int) = ((s.toNat : Nat) : Int) := by rw [← r1]; exact (Int.natCast_ediv N Z).symm
  have g8 : (((s.toNat : Nat) : Int) == 1) = s := b_eq s
  obtain ⟨J, hJ⟩ : ∃ J, J = N / H := ⟨_, rfl⟩
  rw [← hJ] at r3
  obtain ⟨H1, hH2⟩ : ∃ H1, H1 = H - 1 := ⟨_, rfl⟩
  obtain ⟨K, hK⟩ : ∃ K, K = t + q + 2 := ⟨_, rfl⟩
  have hKX : X = K + 1 := by rw [hK, hX]; omega
  have hJN : J ≤ N := by rw [hJ]; exact Nat.div_le_self _ _
  have k1 : IntKind.i64.wrap ((p : Int) - 1) = ((p - 1 : Nat) : Int) := by rw [IntKind.wrap_i64]; omega
  have k2 : min (p - 1) 64 = p - 1 := by omega
  have k3 : (2 : Int) ^ (p - 1) = (H : Int) := by rw [hH, Int.natCast_pow]; rfl
  have k4 : IntKind.u64.wrap (H : Int) = (H : Int) := by rw [IntKind.wrap_u64]; omega
  have k5 : IntKind.u64.wrap ((H : Int) - 1) = (H1 : Int) := by rw [IntKind.wrap_u64]; omega
  have k6 : bits BinOp.and IntKind.u64 (N : Int) (H1 : Int) = (m0 : Int) := by rw [u64_and_nat _ _ hNZ2 (by omega), hH2, hH, Nat.and_two_pow_sub_one_eq_mod, ← hH, r2]
  have k7 : (N : Int) / (H : Int) = (J : Int) := by rw [hJ]; exact (Int.natCast_ediv N H).symm
  have k8 : IntKind.i64.wrap (sz - (p : Int)) = (ew : Int) := by rw [IntKind.wrap_i64]; omega
  have k9 : min ew 64 = ew := by omega
  have k10 : (2 : Int) ^ ew = (X : Int) := by rw [hX, Int.natCast_pow]; rfl
  have k11 : IntKind.u64.wrap (X : Int) = (X : Int) := by rw [IntKind.wrap_u64]; omega
  have k12 : IntKind.u64.wrap ((X : Int) - 1) = (K : Int) := by rw [IntKind.wrap_u64]; omega
  have k13 : bits BinOp.and IntKind.u64 (J : Int) (K : Int) = (x : Int) := by rw [u64_and_nat _ _ (by omega) (by omega), show K = 2 ^ ew - 1 by omega, Nat.and_two_pow_sub_one_eq_mod, ← hX, r3]
  have k14 : IntKind.i64.wrap (x : Int) = (x : Int) := by rw [IntKind.wrap_i64]; omega
  have k15 : IntKind.i64.wrap (X : Int) = (X : Int) := by rw [IntKind.wrap_i64]; omega
  have k16 : IntKind.i64.wrap ((X : Int) - 1) = (K : Int) := by rw [IntKind.wrap_i64]; omega
  have k17 : IntKind.u64.wrap (x : Int) = (x : Int) := by rw [IntKind.wrap_u64]; omega
  have HX9 := Lib.hid hX1
  have HM := Lib.hid (And.intro hm0 (And.intro hx (And.intro hH (And.intro hm1 (And.intro hxX (And.intro hKX hK)))))); clear hm0 hx hm1 hxX hKX hK
  clear r1 r2 r3 hJ hJN hNZ hNZ2 hbZ hN hZH hH0 hX1 hZ1 hz9 hw1 hw2 hw3 hX hH2 hZ hH hz3
  obtain ⟨wa, hwa⟩ : ∃ wa, wa = w.alloc (.cells #[.bool false, .slice none 0 0, .slice none 0 0] 25) := ⟨_, rfl⟩
  have hbl : Below w.heap.size w wa := by rw [hwa]; exact bel_alloc (bel_refl _) _
  have RES : Blk wa (w.heap.size) 25 #[.bool false, .slice none 0 0, .slice none 0 0] := by
    have hz := Blk.new (w) 25 #[.bool false, .slice none 0 0, .slice none 0 0]
    rw [hwa]
    exact hz
  have HW := Lib.hid hbl; clear hbl
  replace RES := Lib.hid RES
  go_enter Try.func47, Try.ntmps47
  go_wp2_with fail
  rw [← hwa]
  clear hwa
  refine (forms_any _).mono ?_
  rintro e w1 ⟨rfl, hmap, hbl⟩
  replace RES := Lib.hid (RES.out.below hbl RES.out.lt)
  replace HW := Lib.hid (bel_trans HW.out hbl); clear hbl
  have hlk := look_form hmap HF.out
  clear hmap
  go_upto_region 2 with fail
  obtain ⟨wm, hwm⟩ : ∃ wm, wm = w1.alloc (.cells #[.int .i64 (p : Int), .int .i64 (q : Int), .int .i64 (t : Int)] 74) := ⟨_, rfl⟩
  rw [← hwm]
  have hbl : Below w1.heap.size w1 wm := by rw [hwm]; exact bel_alloc (bel_refl _) _
  have CF : Blk wm (w1.heap.size) 74 #[.int .i64 (p : Int), .int .i64 (q : Int), .int .i64 (t : Int)] := by
    have hz := Blk.new (w1) 74 #[.int .i64 (p : Int), .int .i64 (q : Int), .int .i64 (t : Int)]
    rw [hwm]
    exact hz
  clear hwm
  replace RES := Lib.hid (RES.out.below hbl RES.out.lt)
  replace HW := Lib.hid (bel_trans HW.out hbl); clear hbl
  replace CF := Lib.hid CF
  have CF0 : wm.cell? ⟨w1.heap.size, 0, none⟩ = some (.int .i64 (p : Int)) := CF.out.cell 0
  have CF1 : wm.cell? ⟨w1.heap.size, 1, none⟩ = some (.int .i64 (q : Int)) := CF.out.cell 1
  have CF2 : wm.cell? ⟨w1.heap.size, 2, none⟩ = some (.int .i64 (t : Int)) := CF.out.cell 2
  go_cut [37] (fun v wx => v = .bool false ∧ wx = wm)
  case first =>
    obtain ⟨z1, h32, hZ, hz3⟩ := HZ1.out
    obtain rfl : sz = 32 := by simpa using z1
    obtain rfl : z = 31 := by omega
    rw [show (2 : Nat) ^ 31 = 2147483648 from rfl] at hZ
    subst hZ
    have g9 : (N : Int) / 4294967296 = 0 := by omega
    have g55 : ((N : Int) == 2147483648) = false := g5
    clear z1 h32 hz3 g1 g2 g3 g4 g7
    go_wp2_with fail
    go_meet
    exact ⟨rfl, rfl⟩
  case rest =>
    obtain ⟨rfl, rfl⟩ := hcut
    go_upto_region 5 with fail
    refine wp_region_typed 22 (TOf [VIs (.int .u64 (N : Int)),
        VIs (.pointer (some ⟨w1.heap.size, 0, none⟩)),
        VIs (.int .i64 (p : Int)),
        VIs (.int .i64 ((p - 1 : Nat) : Int)),
        VIs (.int .u64 (H : Int)),
        VIs (.int .u64 (H1 : Int)),
        VIs (.int .u64 (m0 : Int)),
        VIs (.int .u64 (N : Int)),
        VIs (.pointer (some ⟨w1.heap.size, 0, none⟩)),
        VIs (.int .i64 (p : Int)),
        VIs (.int .i64 ((p - 1 : Nat) : Int)),
        VIs (.int .u64 (J : Int)),
        VIs (.int .i64 sz),
        VIs (.pointer (some ⟨w1.heap.size, 0, none⟩)),
        VIs (.int .i64 (p : Int)),
        VIs (.int .i64 (ew : Int)),
        VIs (.int .u64 (X : Int)),
        VIs (.int .u64 (K : Int)),
        VIs (.int .u64 (x : Int)),
        VIs (.int .i64 (x : Int)),
        VIs (.int .u64 (m0 : Int)),
        VIs (.int .i64 (x : Int))]) (by kernel_rfl) (by kernel_rfl) (by kernel_rfl) (LiftAll.at_ (.cons (VIs.lift _) (.cons (VIs.lift _) (.cons (VIs.lift _) (.cons (VIs.lift _) (.cons (VIs.lift _) (.cons (VIs.lift _) (.cons (VIs.lift _) (.cons (VIs.lift _) (.cons (VIs.lift _) (.cons (VIs.lift _) (.cons (VIs.lift _) (.cons (VIs.lift _) (.cons (VIs.lift _) (.cons (VIs.lift _) (.cons (VIs.lift _) (.cons (VIs.lift _) (.cons (VIs.lift _) (.cons (VIs.lift _) (.cons (VIs.lift _) (.cons (VIs.lift _) (.cons (VIs.lift _) (.cons (VIs.lift _) .nil))))))))))))))))))))))) (steps_all (steps_cons ?_ (steps_cons ?_ (steps_cons ?_ (steps_cons ?_ (steps_cons ?_ (steps_cons ?_ (steps_cons ?_ (steps_cons ?_ (steps_cons ?_ (steps_cons ?_ (steps_cons ?_ (steps_cons ?_ (steps_cons ?_ (steps_cons ?_ (steps_cons ?_ (steps_cons ?_ (steps_cons ?_ (steps_cons ?_ (steps_cons ?_ (steps_cons ?_ (steps_cons ?_ (steps_cons ?_ steps_zero))))))))))))))))))))))) ?fin
    · intro a0 w9 K9 hF hB hK hC
      have b0 := hF.base (k := 0) (v := .int .u64 (N : Int)) (by kernel_rfl) rfl
      clear hF hB hK
      go_simp
      exact hC _ _ (bel_refl _) fun _ _ => rfl
    · intro a0 w9 K9 hF hB hK hC
      have b6 := hF.base (k := 6) (v := .pointer (some ⟨w1.heap.size, 0, none⟩)) (by kernel_rfl) rfl
      clear hF hB hK
      go_simp
      exact hC _ _ (bel_refl _) fun _ _ => rfl
    · intro a0 w9 K9 hF hB hK hC
      obtain ⟨v45, e45, z45⟩ := dep hK 0 (g := .data) (j := 1) (k := 45) rfl rfl rfl
      have z45 : v45 = .pointer (some ⟨w1.heap.size, 0, none⟩) := z45
      subst z45
      have x9 : w9.cell? ⟨w1.heap.size, 0, none⟩ = some (.int .i64 (p : Int)) := (CF.out.below hB CF.out.lt).cell 0
      clear hF hB hK
      go_simp
      exact hC _ _ (bel_refl _) fun _ _ => rfl
    · intro a0 w9 K9 hF hB hK hC
      obtain ⟨v46, e46, z46⟩ := dep hK 0 (g := .data) (j := 2) (k := 46) rfl rfl rfl
      have z46 : v46 = .int .i64 (p : Int) := z46
      subst z46
      have HB9 := Lib.hid hB
      clear hF hB hK
      go_simp
      exact hC _ _ (bel_refl _) fun _ _ => rfl
    · intro a0 w9 K9 hF hB hK hC
      obtain ⟨v47, e47, z47⟩ := dep hK 0 (g := .data) (j := 3) (k := 47) rfl rfl rfl
      have z47 : v47 = .int .i64 ((p - 1 : Nat) : Int) := z47
      subst z47
      have HB9 := Lib.hid hB
      clear hF hB hK
      go_simp
      exact hC _ _ (bel_refl _) fun _ _ => rfl
    · intro a0 w9 K9 hF hB hK hC
      obtain ⟨v48, e48, z48⟩ := dep hK 0 (g := .data) (j := 4) (k := 48) rfl rfl rfl
      have z48 : v48 = .int .u64 (H : Int) := z48
      subst z48
      have HB9 := Lib.hid hB
      clear hF hB hK
      go_simp
      exact hC _ _ (bel_refl _) fun _ _ => rfl
    · intro a0 w9 K9 hF hB hK hC
      obtain ⟨v44, e44, z44⟩ := dep hK 0 (g := .data) (j := 0) (k := 44) rfl rfl rfl
      have z44 : v44 = .int .u64 (N : Int) := z44
      subst z44
      obtain ⟨v49, e49, z49⟩ := dep hK 1 (g := .data) (j := 5) (k := 49) rfl rfl rfl
      have z49 : v49 = .int .u64 (H1 : Int) := z49
      subst z49
      have HB9 := Lib.hid hB
      clear hF hB hK
      go_simp
      exact hC _ _ (bel_refl _) fun _ _ => rfl
    · intro a0 w9 K9 hF hB hK hC
      have b0 := hF.base (k := 0) (v := .int .u64 (N : Int)) (by kernel_rfl) rfl
      clear hF hB hK
      go_simp
      exact hC _ _ (bel_refl _) fun _ _ => rfl
    · intro a0 w9 K9 hF hB hK hC
      have b6 := hF.base (k := 6) (v := .pointer (some ⟨w1.heap.size, 0, none⟩)) (by kernel_rfl) rfl
      clear hF hB hK
      go_simp
      exact hC _ _ (bel_refl _) fun _ _ => rfl
    · intro a0 w9 K9 hF hB hK hC
      obtain ⟨v52, e52, z52⟩ := dep hK 0 (g := .data) (j := 8) (k := 52) rfl rfl rfl
      have z52 : v52 = .pointer (some ⟨w1.heap.size, 0, none⟩) := z52
      subst z52
      have x9 : w9.cell? ⟨w1.heap.size, 0, none⟩ = some (.int .i64 (p : Int)) := (CF.out.below hB CF.out.lt).cell 0
      clear hF hB hK
      go_simp
      exact hC _ _ (bel_refl _) fun _ _ => rfl
    · intro a0 w9 K9 hF hB hK hC
      obtain ⟨v53, e53, z53⟩ := dep hK 0 (g := .data) (j := 9) (k := 53) rfl rfl rfl
      have z53 : v53 = .int .i64 (p : Int) := z53
      subst z53
      have HB9 := Lib.hid hB
      clear hF hB hK
      go_simp
      exact hC _ _ (bel_refl _) fun _ _ => rfl
    · intro a0 w9 K9 hF hB hK hC
      obtain ⟨v51, e51, z51⟩ := dep hK 0 (g := .data) (j := 7) (k := 51) rfl rfl rfl
      have z51 : v51 = .int .u64 (N : Int) := z51
      subst z51
      obtain ⟨v54, e54, z54⟩ := dep hK 1 (g := .data) (j := 10) (k := 54) rfl rfl rfl
      have z54 : v54 = .int .i64 ((p - 1 : Nat) : Int) := z54
      subst z54
      have HB9 := Lib.hid hB
      clear hF hB hK
      go_simp
      exact hC _ _ (bel_refl _) fun _ _ => rfl
    · intro a0 w9 K9 hF hB hK hC
      have b1 := hF.base (k := 1) (v := .int .i64 sz) (by kernel_rfl) rfl
      clear hF hB hK
      go_simp
      exact hC _ _ (bel_refl _) fun _ _ => rfl
    · intro a0 w9 K9 hF hB hK hC
      have b6 := hF.base (k := 6) (v := .pointer (some ⟨w1.heap.size, 0, none⟩)) (by kernel_rfl) rfl
      clear hF hB hK
      go_simp
      exact hC _ _ (bel_refl _) fun _ _ => rfl
    · intro a0 w9 K9 hF hB hK hC
      obtain ⟨v57, e57, z57⟩ := dep hK 0 (g := .data) (j := 13) (k := 57) rfl rfl rfl
      have z57 : v57 = .pointer (some ⟨w1.heap.size, 0, none⟩) := z57
      subst z57
      have x9 : w9.cell? ⟨w1.heap.size, 0, none⟩ = some (.int .i64 (p : Int)) := (CF.out.below hB CF.out.lt).cell 0
      clear hF hB hK
      go_simp
      exact hC _ _ (bel_refl _) fun _ _ => rfl
    · intro a0 w9 K9 hF hB hK hC
      obtain ⟨v56, e56, z56⟩ := dep hK 0 (g := .data) (j := 12) (k := 56) rfl rfl rfl
      have z56 : v56 = .int .i64 sz := z56
      subst z56
      obtain ⟨v58, e58, z58⟩ := dep hK 1 (g := .data) (j := 14) (k := 58) rfl rfl rfl
      have z58 : v58 = .int .i64 (p : Int) := z58
      subst z58
      have HB9 := Lib.hid hB
      clear hF hB hK
      go_simp
      exact hC _ _ (bel_refl _) fun _ _ => rfl
    · intro a0 w9 K9 hF hB hK hC
      obtain ⟨v59, e59, z59⟩ := dep hK 0 (g := .data) (j := 15) (k := 59) rfl rfl rfl
      have z59 : v59 = .int .i64 (ew : Int) := z59
      subst z59
      have HB9 := Lib.hid hB
      clear hF hB hK
      go_simp
      exact hC _ _ (bel_refl _) fun _ _ => rfl
    · intro a0 w9 K9 hF hB hK hC
      obtain ⟨v60, e60, z60⟩ := dep hK 0 (g := .data) (j := 16) (k := 60) rfl rfl rfl
      have z60 : v60 = .int .u64 (X : Int) := z60
      subst z60
      have HB9 := Lib.hid hB
      clear hF hB hK
      go_simp
      exact hC _ _ (bel_refl _) fun _ _ => rfl
    · intro a0 w9 K9 hF hB hK hC
      obtain ⟨v55, e55, z55⟩ := dep hK 0 (g := .data) (j := 11) (k := 55) rfl rfl rfl
      have z55 : v55 = .int .u64 (J : Int) := z55
      subst z55
      obtain ⟨v61, e61, z61⟩ := dep hK 1 (g := .data) (j := 17) (k := 61) rfl rfl rfl
      have z61 : v61 = .int .u64 (K : Int) := z61
      subst z61
      have HB9 := Lib.hid hB
      clear hF hB hK
      go_simp
      exact hC _ _ (bel_refl _) fun _ _ => rfl
    · intro a0 w9 K9 hF hB hK hC
      obtain ⟨v62, e62, z62⟩ := dep hK 0 (g := .data) (j := 18) (k := 62) rfl rfl rfl
      have z62 : v62 = .int .u64 (x : Int) := z62
      subst z62
      have HB9 := Lib.hid hB
      clear hF hB hK
      go_simp
      exact hC _ _ (bel_refl _) fun _ _ => rfl
    · intro a0 w9 K9 hF hB hK hC
      obtain ⟨v50, e50, z50⟩ := dep hK 0 (g := .data) (j := 6) (k := 50) rfl rfl rfl
      have z50 : v50 = .int .u64 (m0 : Int) := z50
      subst z50
      clear hF hB hK
      go_simp
      exact hC _ _ (bel_refl _) fun _ _ => rfl
    · intro a0 w9 K9 hF hB hK hC
      obtain ⟨v63, e63, z63⟩ := dep hK 0 (g := .data) (j := 19) (k := 63) rfl rfl rfl
      have z63 : v63 = .int .i64 (x : Int) := z63
      subst z63
      clear hF hB hK
      go_simp
      exact hC _ _ (bel_refl _) fun _ _ => rfl
    case fin =>
      intro a0 w9 hF hB hK
      have b0 := hF.base (k := 0) (v := .int .u64 (N : Int)) (by kernel_rfl) rfl
      have b1 := hF.base (k := 1) (v := .int .i64 sz) (by kernel_rfl) rfl
      have b4 := hF.base (k := 4) (v := .pointer (some ⟨w.heap.size, 0, none⟩)) (by kernel_rfl) rfl
      have b5 := hF.base (k := 5) (v := .int .i64 0) (by kernel_rfl) rfl
      have b6 := hF.base (k := 6) (v := .pointer (some ⟨w1.heap.size, 0, none⟩)) (by kernel_rfl) rfl
      have b8 := hF.base (k := 8) (v := .bool s) (by kernel_rfl) rfl
      have hsz := hF.size
      have hdf := hF.defers
      clear hF
      obtain ⟨v9, e9, z9⟩ := known hK 20 (k := 9) (by decide) rfl
      have z9 : v9 = .int .u64 (m0 : Int) := z9
      subst z9
      obtain ⟨v10, e10, z10⟩ := known hK 21 (k := 10) (by decide) rfl
      have z10 : v10 = .int .i64 (x : Int) := z10
      subst z10
      clear hK
      obtain ⟨⟨l0⟩, df⟩ := a0
      have hs0 : l0.length = 132 := hsz
      clear hsz
      replace hdf : df = _ := hdf
      subst hdf
      obtain ⟨u, rfl⟩ := lits_132 hs0
      clear hs0
      generalize hAr : (Array.mk [u 0, u 1, u 2, u 3, u 4, u 5, u 6, u 7, u 8, u 9, u 10, u 11, u 12, u 13, u 14, u 15, u 16, u 17, u 18, u 19, u 20, u 21, u 22, u 23, u 24, u 25, u 26, u 27, u 28, u 29, u 30, u 31, u 32, u 33, u 34, u 35, u 36, u 37, u 38, u 39, u 40, u 41, u 42, u 43, u 44, u 45, u 46, u 47, u 48, u 49, u 50, u 51, u 52, u 53, u 54, u 55, u 56, u 57, u 58, u 59, u 60, u 61, u 62, u 63, u 64, u 65, u 66, u 67, u 68, u 69, u 70, u 71, u 72, u 73, u 74, u 75, u 76, u 77, u 78, u 79, u 80, u 81, u 82, u 83, u 84, u 85, u 86, u 87, u 88, u 89, u 90, u 91, u 92, u 93, u 94, u 95, u 96, u 97, u 98, u 99, u 100, u 101, u 102, u 103, u 104, u 105, u 106, u 107, u 108, u 109, u 110, u 111, u 112, u 113, u 114, u 115, u 116, u 117, u 118, u 119, u 120, u 121, u 122, u 123, u 124, u 125, u 126, u 127, u 128, u 129, u 130, u 131] : Array Value) = ar
      obtain rfl : ar = #[u 0, u 1, u 2, u 3, u 4, u 5, u 6, u 7, u 8, u 9, u 10, u 11, u 12, u 13, u 14, u 15, u 16, u 17, u 18, u 19, u 20, u 21, u 22, u 23, u 24, u 25, u 26, u 27, u 28, u 29, u 30, u 31, u 32, u 33, u 34, u 35, u 36, u 37, u 38, u 39, u 40, u 41, u 42, u 43, u 44, u 45, u 46, u 47, u 48, u 49, u 50, u 51, u 52, u 53, u 54, u 55, u 56, u 57, u 58, u 59, u 60, u 61, u 62, u 63, u 64, u 65, u 66, u 67, u 68, u 69, u 70, u 71, u 72, u 73, u 74, u 75, u 76, u 77, u 78, u 79, u 80, u 81, u 82, u 83, u 84, u 85, u 86, u 87, u 88, u 89, u 90, u 91, u 92, u 93, u 94, u 95, u 96, u 97, u 98, u 99, u 100, u 101, u 102, u 103, u 104, u 105, u 106, u 107, u 108, u 109, u 110, u 111, u 112, u 113, u 114, u 115, u 116, u 117, u 118, u 119, u 120, u 121, u 122, u 123, u 124, u 125, u 126, u 127, u 128, u 129, u 130, u 131] := hAr.symm
      have q0 : u 0 = _ := Option.some.inj b0
      clear b0
      have q1 : u 1 = _ := Option.some.inj b1
      clear b1
      have q4 : u 4 = _ := Option.some.inj b4
      clear b4
      have q5 : u 5 = _ := Option.some.inj b5
      clear b5
      have q6 : u 6 = _ := Option.some.inj b6
      clear b6
      have q8 : u 8 = _ := Option.some.inj b8
      clear b8
      have q9 : u 9 = _ := Option.some.inj e9
      clear e9
      have q10 : u 10 = _ := Option.some.inj e10
      clear e10
      rw [q0, q1, q4, q5, q6, q8, q9, q10]
      clear q0 q1 q4 q5 q6 q8 q9 q10
      have hbl := hB; clear hB
      replace RES := Lib.hid (RES.out.below hbl RES.out.lt)
      replace CF := Lib.hid (CF.out.below hbl CF.out.lt)
      replace HW := Lib.hid (bel_trans HW.out hbl); clear hbl
      clear CF0 CF1 CF2
      have CF0 : w9.cell? ⟨w1.heap.size, 0, none⟩ = some (.int .i64 (p : Int)) := CF.out.cell 0
      have CF1 : w9.cell? ⟨w1.heap.size, 1, none⟩ = some (.int .i64 (q : Int)) := CF.out.cell 1
      have CF2 : w9.cell? ⟨w1.heap.size, 2, none⟩ = some (.int .i64 (t : Int)) := CF.out.cell 2
      refine wpList_nil ?_
      have hxK : x ≠ K := by rw [HM.out.2.1, HM.out.2.2.2.2.2.2]; intro h; refine hb ?_; rw [← h, ← HM.out.2.2.1]; exact Nat.div_mul_le_self b H
      have c1 : ((x : Int) == (K : Int)) = false := by simp only [beq_eq_false_iff_ne, ne_eq]; omega
      have HB := Lib.hid (And.intro hb hs); clear hb hs hxK
      go_upto_block 0 with fail
      obtain ⟨m, hm⟩ : ∃ m, m = mant p b := ⟨_, rfl⟩
      obtain ⟨y0, hy0⟩ : ∃ y, y = expo p b := ⟨_, rfl⟩
      have HY := Lib.hid (And.intro hm hy0)
      have hmx : x = 0 → m = m0 ∧ y0 = 0 := fun h => val_low HM.out.1 HM.out.2.1 HM.out.2.2.1 hm hy0 h
      have hmy : x ≠ 0 → m = m0 + H ∧ y0 + 1 = x := fun h => val_high HM.out.1 HM.out.2.1 HM.out.2.2.1 hm hy0 h
      have hmH : m ≤ 9007199254740992 := by rcases Nat.eq_zero_or_pos x with h | h; have := hmx h; have := HM.out.2.2.2.1; omega; have := hmy (by omega); have := HM.out.2.2.2.1; omega
      have hyx : y0 ≤ 2048 := by rcases Nat.eq_zero_or_pos x with h | h; have := hmx h; omega; have := hmy (by omega); have := HM.out.2.2.2.2.1; have := HX9.out; omega
      clear hm hy0
      go_cut [9, 10] (fun v v2 wx => wx = w9 ∧ v = .int .u64 (m : Int) ∧ v2 = .int .i64 ((y0 : Int) + 1))
      case first =>
        by_cases hx0 : x = 0
        · have c2 : ((x : Int) == 0) = true := by simp [hx0]
          obtain ⟨e1, e2⟩ := hmx hx0
          have HE := Lib.hid (And.intro e1 e2); clear e1 e2 hx0
          go_wp2_with fail
          go_meet
          exact ⟨rfl, by rw [HE.out.1], by rw [HE.out.2]; rfl⟩
        · have c2 : ((x : Int) == 0) = false := by simp [hx0]
          obtain ⟨e1, e2⟩ := hmy hx0
          have g10 : bits BinOp.or IntKind.u64 (m0 : Int) (H : Int) = (m : Int) := by
            have h1 := HM.out.2.2.2.1
            rw [u64_or_nat _ _ (by omega) (by omega), e1]
            have h2 := Nat.two_pow_add_eq_or_of_lt (show m0 < 2 ^ (p - 1) by rw [← HM.out.2.2.1]; exact h1) 1
            rw [Nat.mul_one, ← HM.out.2.2.1] at h2
            rw [Nat.or_comm, ← h2, Nat.add_comm]
          have HE := Lib.hid (And.intro e1 e2); clear e1 e2 hx0
          go_wp2_with fail
          go_meet
          exact ⟨rfl, rfl, by first | rfl | (congr 1; have := HE.out.2; omega)⟩
      case rest =>
        obtain ⟨rfl, rfl, rfl⟩ := hcut
        clear hmx hmy c1 k1 k2 k3 k4 k5 k6 k7 k8 k9 k10 k11 k12 k13 k14 k15 k16 k17
        go_wp2_with fail
        refine (of_any m _ (by omega)).mono ?_
        rintro e w3 ⟨vn, rfl, hnn, hbl⟩
        replace RES := Lib.hid (RES.out.below hbl RES.out.lt)
        replace CF := Lib.hid (CF.out.below hbl CF.out.lt)
        replace HW := Lib.hid (bel_trans HW.out hbl); clear hbl
        clear CF0 CF1 CF2
        have CF0 : w3.cell? ⟨w1.heap.size, 0, none⟩ = some (.int .i64 (p : Int)) := CF.out.cell 0
        have CF1 : w3.cell? ⟨w1.heap.size, 1, none⟩ = some (.int .i64 (q : Int)) := CF.out.cell 1
        have CF2 : w3.cell? ⟨w1.heap.size, 2, none⟩ = some (.int .i64 (t : Int)) := CF.out.cell 2
        have HNn := Lib.hid hnn; clear hnn
        obtain ⟨An, cn, rfl, hcn, hrn⟩ := HNn.out.row
        have Rn := Lib.hid hrn; have HCn := Lib.hid hcn; clear hrn hcn
        go_wp2_with fail
        refine (of_one _).mono ?_
        rintro e w4 ⟨vo, rfl, hno, hbl⟩
        replace Rn := Lib.hid (Rn.out.below hbl)
        replace HNn := Lib.hid (HNn.out.below hbl)
        replace RES := Lib.hid (RES.out.below hbl RES.out.lt)
        replace CF := Lib.hid (CF.out.below hbl CF.out.lt)
        replace HW := Lib.hid (bel_trans HW.out hbl); clear hbl
        clear CF0 CF1 CF2
        have CF0 : w4.cell? ⟨w1.heap.size, 0, none⟩ = some (.int .i64 (p : Int)) := CF.out.cell 0
        have CF1 : w4.cell? ⟨w1.heap.size, 1, none⟩ = some (.int .i64 (q : Int)) := CF.out.cell 1
        have CF2 : w4.cell? ⟨w1.heap.size, 2, none⟩ = some (.int .i64 (t : Int)) := CF.out.cell 2
        have HNo := Lib.hid hno; clear hno
        obtain ⟨Ao, co, rfl, hco, hro⟩ := HNo.out.row
        have Ro := Lib.hid hro; have HCo := Lib.hid hco; clear hro hco
        go_wp2_with fail
        go_loopw [9, 10, 11] (fun mv ev nv wr => ∃ (m1 k : Nat), mv = .int .u64 (m1 : Int) ∧ ev = .int .i64 ((y0 : Int) + 1 + k) ∧ VlRel w4 wr m m1 k nv) (fun mv _ _ _ => (intOf mv).toNat)
        case atStart => exact ⟨m, 0, rfl, by simp, bel_refl _, by simp, HNn.out, fun _ => rfl⟩
        case round =>
          obtain ⟨m1, k, rfl, rfl, hrel⟩ := hrel
          have HR := Lib.hid hrel; clear hrel
          clear CF0 CF1 CF2
          replace Rn := Lib.hid (Rn.out.below HR.out.old)
          replace HNn := Lib.hid (HNn.out.below HR.out.old)
          replace Ro := Lib.hid (Ro.out.below HR.out.old)
          replace HNo := Lib.hid (HNo.out.below HR.out.old)
          replace RES := Lib.hid (RES.out.below HR.out.old RES.out.lt)
          replace CF := Lib.hid (CF.out.below HR.out.old CF.out.lt)
          replace HW := Lib.hid (bel_trans HW.out HR.out.old)
          have CF0 : wr.cell? ⟨w1.heap.size, 0, none⟩ = some (.int .i64 (p : Int)) := CF.out.cell 0
          have CF1 : wr.cell? ⟨w1.heap.size, 1, none⟩ = some (.int .i64 (q : Int)) := CF.out.cell 1
          have CF2 : wr.cell? ⟨w1.heap.size, 2, none⟩ = some (.int .i64 (t : Int)) := CF.out.cell 2
          have hmul := HR.out.mul
          have hk : m1 ≠ 0 → k ≤ 60 := fun h => val_k hmul h (by omega)
          have hm1m : m1 ≤ m := by rw [← hmul]; exact Nat.le_mul_of_pos_right _ (Nat.pow_pos (by decide))
          have hk00 := HR.out.k0
          have HK := Lib.hid (And.intro hmul (And.intro hk (And.intro hm1m hk00))); clear hmul hk00
          by_cases h0 : m1 = 0
          · have c3 : ((m1 : Int) != 0) = false := by simp [h0]
            have c5 : ((m1 : Int) == 0) = true := by simp [h0]
            have hk9 : k ≤ 60 := by have := HK.out.2.2.2 h0; omega
            have t1 : IntKind.i64.wrap (1 + (q : Int)) = 1 + (q : Int) := by rw [IntKind.wrap_i64]; omega
            obtain ⟨y, hy⟩ : ∃ y : Int, y = (y0 : Int) + k - q := ⟨_, rfl⟩
            have t2 : IntKind.i64.wrap ((y0 : Int) + 1 + k - (1 + (q : Int))) = y := by rw [IntKind.wrap_i64]; omega
            obtain ⟨A1, ca1, rfl, hca1, hra1⟩ := HR.out.num.row
            have RN := Lib.hid hra1; have KN := Lib.hid hca1; clear hra1 hca1
            clear hk hm1m
            have hb0 : b = 0 := by have h1 := HK.out.1; rw [h0, Nat.zero_mul] at h1; rw [HY.out.1] at h1; exact mant_zero.1 h1.symm
            have hy2 : y = -(q : Int) := by rw [hy, HK.out.2.2.2 h0, HY.out.2, hb0, show expo p 0 = 0 by unfold expo; rw [Nat.zero_div]]; omega
            subst hy2
            have t3 : (-(q : Int)) < 0 := by omega
            have t4 : IntKind.i64.wrap (q : Int) = (q : Int) := by rw [IntKind.wrap_i64]; omega
            have HB0 := Lib.hid (And.intro hb0 h0); clear hb0 h0 hy
            go_wp2_with fail
            refine (shift_up Ao co 1 q _ Ro.out (small_top (by decide))).mono ?_
            rintro e w5 ⟨ve, rfl, hne, hbl⟩
            replace Rn := Lib.hid (Rn.out.below hbl)
            replace HNn := Lib.hid (HNn.out.below hbl)
            replace Ro := Lib.hid (Ro.out.below hbl)
            replace HNo := Lib.hid (HNo.out.below hbl)
            replace RN := Lib.hid (RN.out.below hbl)
            replace RES := Lib.hid (RES.out.below hbl RES.out.lt)
            replace CF := Lib.hid (CF.out.below hbl CF.out.lt)
            replace HW := Lib.hid (bel_trans HW.out hbl); clear hbl
            clear CF0 CF1 CF2
            have CF0 : w5.cell? ⟨w1.heap.size, 0, none⟩ = some (.int .i64 (p : Int)) := CF.out.cell 0
            have CF1 : w5.cell? ⟨w1.heap.size, 1, none⟩ = some (.int .i64 (q : Int)) := CF.out.cell 1
            have CF2 : w5.cell? ⟨w1.heap.size, 2, none⟩ = some (.int .i64 (t : Int)) := CF.out.cell 2
            have HNe := Lib.hid hne; clear hne
            obtain ⟨Ae, ce, rfl, hce, hre⟩ := HNe.out.row
            have Re := Lib.hid hre; have HCe := Lib.hid hce; clear hre hce
            go_wp2_with fail
            refine (of_one _).mono ?_
            rintro e w6 ⟨vp, rfl, hnp, hbl⟩
            replace Rn := Lib.hid (Rn.out.below hbl)
            replace HNn := Lib.hid (HNn.out.below hbl)
            replace Ro := Lib.hid (Ro.out.below hbl)
            replace HNo := Lib.hid (HNo.out.below hbl)
            replace RN := Lib.hid (RN.out.below hbl)
            replace Re := Lib.hid (Re.out.below hbl)
            replace HNe := Lib.hid (HNe.out.below hbl)
            replace RES := Lib.hid (RES.out.below hbl RES.out.lt)
            replace CF := Lib.hid (CF.out.below hbl CF.out.lt)
            replace HW := Lib.hid (bel_trans HW.out hbl); clear hbl
            clear CF0 CF1 CF2
            have CF0 : w6.cell? ⟨w1.heap.size, 0, none⟩ = some (.int .i64 (p : Int)) := CF.out.cell 0
            have CF1 : w6.cell? ⟨w1.heap.size, 1, none⟩ = some (.int .i64 (q : Int)) := CF.out.cell 1
            have CF2 : w6.cell? ⟨w1.heap.size, 2, none⟩ = some (.int .i64 (t : Int)) := CF.out.cell 2
            have HNp := Lib.hid hnp; clear hnp
            obtain ⟨Ap, cp, rfl, hcp, hrp⟩ := HNp.out.row
            have Rp := Lib.hid hrp; have HCp := Lib.hid hcp; clear hrp hcp
            go_wp2_with fail
            refine (make_ok s A1 Ap ca1 cp m1 1 _ RN.out Rp.out KN.out HCp.out (small_top (by rw [HB0.out.2]; decide)) (small_top (by decide)) (by decide) (make_val (show m1 = LN p q b by rw [HB0.out.2, HB0.out.1]; exact (L_zero p q).1.symm) (show 1 = LD p q b by rw [HB0.out.1]; exact (L_zero p q).2.symm) HB.out.2)).mono ?_
            rintro e w7 ⟨vx, vy, rfl, hnx, hny, hbl⟩
            replace Rn := Lib.hid (Rn.out.below hbl)
            replace HNn := Lib.hid (HNn.out.below hbl)
            replace Ro := Lib.hid (Ro.out.below hbl)
            replace HNo := Lib.hid (HNo.out.below hbl)
            replace RN := Lib.hid (RN.out.below hbl)
            replace Re := Lib.hid (Re.out.below hbl)
            replace HNe := Lib.hid (HNe.out.below hbl)
            replace Rp := Lib.hid (Rp.out.below hbl)
            replace HNp := Lib.hid (HNp.out.below hbl)
            replace RES := Lib.hid (RES.out.below hbl RES.out.lt)
            replace CF := Lib.hid (CF.out.below hbl CF.out.lt)
            replace HW := Lib.hid (bel_trans HW.out hbl); clear hbl
            clear CF0 CF1 CF2
            have CF0 : w7.cell? ⟨w1.heap.size, 0, none⟩ = some (.int .i64 (p : Int)) := CF.out.cell 0
            have CF1 : w7.cell? ⟨w1.heap.size, 1, none⟩ = some (.int .i64 (q : Int)) := CF.out.cell 1
            have CF2 : w7.cell? ⟨w1.heap.size, 2, none⟩ = some (.int .i64 (t : Int)) := CF.out.cell 2
            have HNx := Lib.hid hnx; clear hnx
            obtain ⟨Ax, cx, rfl, hcx, hrx⟩ := HNx.out.row
            have Rx := Lib.hid hrx; have HCx := Lib.hid hcx; clear hrx hcx
            have HNy := Lib.hid hny; clear hny
            obtain ⟨Ay, cy, rfl, hcy, hry⟩ := HNy.out.row
            have Ry := Lib.hid hry; have HCy := Lib.hid hcy; clear hry hcy
            have d0 : w7.cell? ⟨w.heap.size, 0, none⟩ = some (.bool false) := RES.out.cell 0
            have f0 : w7.frozen? ⟨w.heap.size, 0, none⟩ = false := RES.out.frozen 0
            have d1 : w7.cell? ⟨w.heap.size, 1, none⟩ = some (.slice none 0 0) := RES.out.cell 1
            have f1 : w7.frozen? ⟨w.heap.size, 1, none⟩ = false := RES.out.frozen 1
            have d2 : w7.cell? ⟨w.heap.size, 2, none⟩ = some (.slice none 0 0) := RES.out.cell 2
            have f2 : w7.frozen? ⟨w.heap.size, 2, none⟩ = false := RES.out.frozen 2
            have D := Lib.hid (And.intro (RES.out.put3 (.bool (valQ s p q b).s) (.slice Ax (limbs (valQ s p q b).n).length cx) (.slice Ay (limbs (valQ s p q b).d).length cy)) (bel_set3 HW.out (Nat.le_refl _) (.bool (valQ s p q b).s) (.slice Ax (limbs (valQ s p q b).n).length cx) (.slice Ay (limbs (valQ s p q b).d).length cy)))
            have N0 := Lib.hid (RdN.set3 RES.out (HNx.out) (.bool (valQ s p q b).s) (.slice Ax (limbs (valQ s p q b).n).length cx) (.slice Ay (limbs (valQ s p q b).d).length cy))
            have N1 := Lib.hid (RdN.set3 RES.out (HNy.out) (.bool (valQ s p q b).s) (.slice Ax (limbs (valQ s p q b).n).length cx) (.slice Ay (limbs (valQ s p q b).d).length cy))
            go_wp2
            refine bodyPost_ret (v := .tuple #[.agg #[.bool (valQ s p q b).s, .slice Ax (limbs (valQ s p q b).n).length cx, .slice Ay (limbs (valQ s p q b).d).length cy], .int .i64 0]) ?hr12 rfl ?hR12
            case hR12 => exact RetVal.fit (by rw [← (show m1 = LN p q b by rw [HB0.out.2, HB0.out.1]; exact (L_zero p q).1.symm)]; exact (small_top (by rw [HB0.out.2]; decide))) (by rw [← (show 1 = LD p q b by rw [HB0.out.1]; exact (L_zero p q).2.symm)]; exact (small_top (by decide))) ⟨_, _, rfl, N0.out, N1.out, D.out.2⟩
            case hr12 => exact results_row_tmp rfl _ _ (w.heap.size) 25 _ (0, 0) _ _ rfl rfl D.out.1 Try.underlying25 rfl (by kernel_rfl)
          · have c3 : ((m1 : Int) != 0) = true := by simp [h0]
            have c5 : ((m1 : Int) == 0) = false := by simp [h0]
            by_cases ho : m1 % 2 = 0
            · have c4 : (bits BinOp.and IntKind.u64 (m1 : Int) 1 == 0) = true := by rw [u64_and_one m1 (by omega), ho]; rfl
              have hk9 := hk h0
              obtain ⟨m2, hm2⟩ : ∃ x, x = m1 / 2 := ⟨_, rfl⟩
              have t1 : (m1 : Int) / 2 = (m2 : Int) := by omega
              have t2 : IntKind.i64.wrap ((y0 : Int) + 1 + k + 1) = (y0 : Int) + 1 + k + 1 := by rw [IntKind.wrap_i64]; omega
              have HN2 := Lib.hid (show m1 = 2 * m2 ∧ m1 ≠ 0 ∧ m2 < m1 ∧ m2 < 18446744073709551616 by omega); clear hm2 ho hk hk9
              go_wp2_with fail
              refine (of_any m2 _ HN2.out.2.2.2).mono ?_
              rintro e w7 ⟨v7, rfl, hn7, hbl⟩
              have H7 := Lib.hid (And.intro hn7 (bel_trans HR.out.old hbl)); clear hn7 hbl
              go_wp2
              go_roundw
              case rel => exact ⟨m2, k + 1, rfl, by first | rfl | (congr 1; omega), H7.out.2, by have h1 := HK.out.1; rw [HN2.out.1] at h1; rw [Nat.pow_succ, ← h1]; grind, H7.out.1, fun h => absurd h (by have := HN2.out; omega)⟩
              case measure => (have := HN2.out.2.2.1; simp [intOf]; omega)
            · have hodd : m1 % 2 = 1 := by omega
              have c4 : (bits BinOp.and IntKind.u64 (m1 : Int) 1 == 0) = false := by rw [u64_and_one m1 (by omega), hodd]; rfl
              have hk9 : k ≤ 60 := hk h0
              have t1 : IntKind.i64.wrap (1 + (q : Int)) = 1 + (q : Int) := by rw [IntKind.wrap_i64]; omega
              obtain ⟨y, hy⟩ : ∃ y : Int, y = (y0 : Int) + k - q := ⟨_, rfl⟩
              have t2 : IntKind.i64.wrap ((y0 : Int) + 1 + k - (1 + (q : Int))) = y := by rw [IntKind.wrap_i64]; omega
              obtain ⟨A1, ca1, rfl, hca1, hra1⟩ := HR.out.num.row
              have RN := Lib.hid hra1; have KN := Lib.hid hca1; clear hra1 hca1
              clear hk hm1m
              obtain ⟨L1, L2⟩ := L_odd (q := q) (HK.out.1.trans HY.out.1) hodd
              rw [← HY.out.2] at L1 L2
              have hmT : m1 < Top := Nat.lt_of_lt_of_le (show m1 < B32 ^ 2 by rw [B32_eq]; have := HK.out.2.2.1; omega) (Nat.pow_le_pow_right (by rw [B32_eq]; decide) (by decide))
              have HT := Lib.hid hmT; clear hmT hodd ho
              by_cases hneg : y < 0
              · obtain ⟨j, hj⟩ : ∃ j : Nat, y = -(j : Int) := ⟨(-y).toNat, by omega⟩
                have hj2 : y0 + k - q = 0 ∧ q - (y0 + k) = j := by omega
                rw [hj2.1, Nat.pow_zero, Nat.mul_one] at L1
                rw [hj2.2] at L2
                subst hj
                have t4 : IntKind.i64.wrap (j : Int) = (j : Int) := by rw [IntKind.wrap_i64]; omega
                have HL := Lib.hid (And.intro L1 L2); clear L1 L2 hj2 hy h0
                obtain ⟨P, hP⟩ : ∃ P, 1 * 2 ^ j = P := ⟨_, rfl⟩
                have HP := Lib.hid hP; clear hP
                by_cases hfit : P < Top
                · have HFIT := Lib.hid hfit; clear hfit
                  go_wp2_with fail
                  refine (shift_fit Ao co 1 j _ Ro.out (small_top (by decide)) HP.out HFIT.out).mono ?_
                  rintro e w5 ⟨ve, rfl, hne, hbl⟩
                  replace Rn := Lib.hid (Rn.out.below hbl)
                  replace HNn := Lib.hid (HNn.out.below hbl)
                  replace Ro := Lib.hid (Ro.out.below hbl)
                  replace HNo := Lib.hid (HNo.out.below hbl)
                  replace RN := Lib.hid (RN.out.below hbl)
                  replace RES := Lib.hid (RES.out.below hbl RES.out.lt)
                  replace CF := Lib.hid (CF.out.below hbl CF.out.lt)
                  replace HW := Lib.hid (bel_trans HW.out hbl); clear hbl
                  clear CF0 CF1 CF2
                  have CF0 : w5.cell? ⟨w1.heap.size, 0, none⟩ = some (.int .i64 (p : Int)) := CF.out.cell 0
                  have CF1 : w5.cell? ⟨w1.heap.size, 1, none⟩ = some (.int .i64 (q : Int)) := CF.out.cell 1
                  have CF2 : w5.cell? ⟨w1.heap.size, 2, none⟩ = some (.int .i64 (t : Int)) := CF.out.cell 2
                  have HNe := Lib.hid hne; clear hne
                  obtain ⟨Ae, ce, rfl, hce, hre⟩ := HNe.out.row
                  have Re := Lib.hid hre; have HCe := Lib.hid hce; clear hre hce
                  go_wp2_with fail
                  refine (make_ok s A1 Ae ca1 ce m1 P _ RN.out Re.out KN.out HCe.out HT.out HFIT.out (by rw [← HP.out, Nat.one_mul]; exact Nat.ne_of_gt (Nat.pow_pos (by decide))) (make_val HL.out.1 (show P = LD p q b by rw [← HP.out, Nat.one_mul]; exact HL.out.2) HB.out.2)).mono ?_
                  rintro e w6 ⟨vx, vy, rfl, hnx, hny, hbl⟩
                  replace Rn := Lib.hid (Rn.out.below hbl)
                  replace HNn := Lib.hid (HNn.out.below hbl)
                  replace Ro := Lib.hid (Ro.out.below hbl)
                  replace HNo := Lib.hid (HNo.out.below hbl)
                  replace RN := Lib.hid (RN.out.below hbl)
                  replace Re := Lib.hid (Re.out.below hbl)
                  replace HNe := Lib.hid (HNe.out.below hbl)
                  replace RES := Lib.hid (RES.out.below hbl RES.out.lt)
                  replace CF := Lib.hid (CF.out.below hbl CF.out.lt)
                  replace HW := Lib.hid (bel_trans HW.out hbl); clear hbl
                  clear CF0 CF1 CF2
                  have CF0 : w6.cell? ⟨w1.heap.size, 0, none⟩ = some (.int .i64 (p : Int)) := CF.out.cell 0
                  have CF1 : w6.cell? ⟨w1.heap.size, 1, none⟩ = some (.int .i64 (q : Int)) := CF.out.cell 1
                  have CF2 : w6.cell? ⟨w1.heap.size, 2, none⟩ = some (.int .i64 (t : Int)) := CF.out.cell 2
                  have HNx := Lib.hid hnx; clear hnx
                  obtain ⟨Ax, cx, rfl, hcx, hrx⟩ := HNx.out.row
                  have Rx := Lib.hid hrx; have HCx := Lib.hid hcx; clear hrx hcx
                  have HNy := Lib.hid hny; clear hny
                  obtain ⟨Ay, cy, rfl, hcy, hry⟩ := HNy.out.row
                  have Ry := Lib.hid hry; have HCy := Lib.hid hcy; clear hry hcy
                  have d0 : w6.cell? ⟨w.heap.size, 0, none⟩ = some (.bool false) := RES.out.cell 0
                  have f0 : w6.frozen? ⟨w.heap.size, 0, none⟩ = false := RES.out.frozen 0
                  have d1 : w6.cell? ⟨w.heap.size, 1, none⟩ = some (.slice none 0 0) := RES.out.cell 1
                  have f1 : w6.frozen? ⟨w.heap.size, 1, none⟩ = false := RES.out.frozen 1
                  have d2 : w6.cell? ⟨w.heap.size, 2, none⟩ = some (.slice none 0 0) := RES.out.cell 2
                  have f2 : w6.frozen? ⟨w.heap.size, 2, none⟩ = false := RES.out.frozen 2
                  have D := Lib.hid (And.intro (RES.out.put3 (.bool (valQ s p q b).s) (.slice Ax (limbs (valQ s p q b).n).length cx) (.slice Ay (limbs (valQ s p q b).d).length cy)) (bel_set3 HW.out (Nat.le_refl _) (.bool (valQ s p q b).s) (.slice Ax (limbs (valQ s p q b).n).length cx) (.slice Ay (limbs (valQ s p q b).d).length cy)))
                  have N0 := Lib.hid (RdN.set3 RES.out (HNx.out) (.bool (valQ s p q b).s) (.slice Ax (limbs (valQ s p q b).n).length cx) (.slice Ay (limbs (valQ s p q b).d).length cy))
                  have N1 := Lib.hid (RdN.set3 RES.out (HNy.out) (.bool (valQ s p q b).s) (.slice Ax (limbs (valQ s p q b).n).length cx) (.slice Ay (limbs (valQ s p q b).d).length cy))
                  go_wp2
                  refine bodyPost_ret (v := .tuple #[.agg #[.bool (valQ s p q b).s, .slice Ax (limbs (valQ s p q b).n).length cx, .slice Ay (limbs (valQ s p q b).d).length cy], .int .i64 0]) ?hr13 rfl ?hR13
                  case hR13 => exact RetVal.fit (by rw [← HL.out.1]; exact HT.out) (by rw [← (show P = LD p q b by rw [← HP.out, Nat.one_mul]; exact HL.out.2)]; exact HFIT.out) ⟨_, _, rfl, N0.out, N1.out, D.out.2⟩
                  case hr13 => exact results_row_tmp rfl _ _ (w.heap.size) 25 _ (0, 0) _ _ rfl rfl D.out.1 Try.underlying25 rfl (by kernel_rfl)
                · have HFIT := Lib.hid hfit; clear hfit
                  go_wp2_with fail
                  refine (shift_ovr Ao co 1 j _ Ro.out (small_top (by decide)) HP.out HFIT.out).mono ?_
                  rintro e w5 ⟨ve, rfl, hne, hbl⟩
                  replace Rn := Lib.hid (Rn.out.below hbl)
                  replace HNn := Lib.hid (HNn.out.below hbl)
                  replace Ro := Lib.hid (Ro.out.below hbl)
                  replace HNo := Lib.hid (HNo.out.below hbl)
                  replace RN := Lib.hid (RN.out.below hbl)
                  replace RES := Lib.hid (RES.out.below hbl RES.out.lt)
                  replace CF := Lib.hid (CF.out.below hbl CF.out.lt)
                  replace HW := Lib.hid (bel_trans HW.out hbl); clear hbl
                  clear CF0 CF1 CF2
                  have CF0 : w5.cell? ⟨w1.heap.size, 0, none⟩ = some (.int .i64 (p : Int)) := CF.out.cell 0
                  have CF1 : w5.cell? ⟨w1.heap.size, 1, none⟩ = some (.int .i64 (q : Int)) := CF.out.cell 1
                  have CF2 : w5.cell? ⟨w1.heap.size, 2, none⟩ = some (.int .i64 (t : Int)) := CF.out.cell 2
                  have HNe := Lib.hid hne; clear hne
                  obtain ⟨Ae, ce, rfl, hce, hre⟩ := HNe.out.row
                  have Re := Lib.hid hre; have HCe := Lib.hid hce; clear hre hce
                  have d0 : w5.cell? ⟨w.heap.size, 0, none⟩ = some (.bool false) := RES.out.cell 0
                  have f0 : w5.frozen? ⟨w.heap.size, 0, none⟩ = false := RES.out.frozen 0
                  have d1 : w5.cell? ⟨w.heap.size, 1, none⟩ = some (.slice none 0 0) := RES.out.cell 1
                  have f1 : w5.frozen? ⟨w.heap.size, 1, none⟩ = false := RES.out.frozen 1
                  have d2 : w5.cell? ⟨w.heap.size, 2, none⟩ = some (.slice none 0 0) := RES.out.cell 2
                  have f2 : w5.frozen? ⟨w.heap.size, 2, none⟩ = false := RES.out.frozen 2
                  have D := Lib.hid (And.intro (RES.out.put3 (.bool false) (.slice none 0 0) (.slice none 0 0)) (bel_set3 HW.out (Nat.le_refl _) (.bool false) (.slice none 0 0) (.slice none 0 0)))
                  have N0 := Lib.hid (RdN.set3 RES.out (RdN.none0 _) (.bool false) (.slice none 0 0) (.slice none 0 0))
                  have N1 := Lib.hid (RdN.set3 RES.out (RdN.none0 _) (.bool false) (.slice none 0 0) (.slice none 0 0))
                  go_wp2
                  refine bodyPost_ret (v := .tuple #[.agg #[.bool false, .slice none 0 0, .slice none 0 0], .int .i64 2]) ?hr14 rfl ?hR14
                  case hR14 => exact RetVal.over (by have h1 := HL.out.2; have h2 := HFIT.out; have h3 := HP.out; rw [Nat.one_mul] at h3; omega) ⟨_, _, rfl, N0.out, N1.out, D.out.2⟩
                  case hr14 => exact results_row_tmp rfl _ _ (w.heap.size) 25 _ (0, 0) _ _ rfl rfl D.out.1 Try.underlying25 rfl (by kernel_rfl)
              · obtain ⟨j, hj⟩ : ∃ j : Nat, y = (j : Int) := ⟨y.toNat, by omega⟩
                have hj2 : y0 + k - q = j ∧ q - (y0 + k) = 0 := by omega
                rw [hj2.1] at L1
                rw [hj2.2, Nat.pow_zero] at L2
                subst hj
                have HL := Lib.hid (And.intro L1 L2); clear L1 L2 hj2 hy h0
                obtain ⟨P, hP⟩ : ∃ P, m1 * 2 ^ j = P := ⟨_, rfl⟩
                have HP := Lib.hid hP; clear hP
                by_cases hfit : P < Top
                · have HFIT := Lib.hid hfit; clear hfit
                  go_wp2_with fail
                  refine (shift_fit A1 ca1 m1 j _ RN.out HT.out HP.out HFIT.out).mono ?_
                  rintro e w5 ⟨ve, rfl, hne, hbl⟩
                  replace Rn := Lib.hid (Rn.out.below hbl)
                  replace HNn := Lib.hid (HNn.out.below hbl)
                  replace Ro := Lib.hid (Ro.out.below hbl)
                  replace HNo := Lib.hid (HNo.out.below hbl)
                  replace RN := Lib.hid (RN.out.below hbl)
                  replace RES := Lib.hid (RES.out.below hbl RES.out.lt)
                  replace CF := Lib.hid (CF.out.below hbl CF.out.lt)
                  replace HW := Lib.hid (bel_trans HW.out hbl); clear hbl
                  clear CF0 CF1 CF2
                  have CF0 : w5.cell? ⟨w1.heap.size, 0, none⟩ = some (.int .i64 (p : Int)) := CF.out.cell 0
                  have CF1 : w5.cell? ⟨w1.heap.size, 1, none⟩ = some (.int .i64 (q : Int)) := CF.out.cell 1
                  have CF2 : w5.cell? ⟨w1.heap.size, 2, none⟩ = some (.int .i64 (t : Int)) := CF.out.cell 2
                  have HNe := Lib.hid hne; clear hne
                  obtain ⟨Ae, ce, rfl, hce, hre⟩ := HNe.out.row
                  have Re := Lib.hid hre; have HCe := Lib.hid hce; clear hre hce
                  go_wp2_with fail
                  refine (make_ok s Ae Ao ce co P 1 _ Re.out Ro.out HCe.out HCo.out HFIT.out (small_top (by decide)) (by decide) (make_val (show P = LN p q b by rw [← HP.out]; exact HL.out.1) (show 1 = LD p q b from HL.out.2) HB.out.2)).mono ?_
                  rintro e w6 ⟨vx, vy, rfl, hnx, hny, hbl⟩
                  replace Rn := Lib.hid (Rn.out.below hbl)
                  replace HNn := Lib.hid (HNn.out.below hbl)
                  replace Ro := Lib.hid (Ro.out.below hbl)
                  replace HNo := Lib.hid (HNo.out.below hbl)
                  replace RN := Lib.hid (RN.out.below hbl)
                  replace Re := Lib.hid (Re.out.below hbl)
                  replace HNe := Lib.hid (HNe.out.below hbl)
                  replace RES := Lib.hid (RES.out.below hbl RES.out.lt)
                  replace CF := Lib.hid (CF.out.below hbl CF.out.lt)
                  replace HW := Lib.hid (bel_trans HW.out hbl); clear hbl
                  clear CF0 CF1 CF2
                  have CF0 : w6.cell? ⟨w1.heap.size, 0, none⟩ = some (.int .i64 (p : Int)) := CF.out.cell 0
                  have CF1 : w6.cell? ⟨w1.heap.size, 1, none⟩ = some (.int .i64 (q : Int)) := CF.out.cell 1
                  have CF2 : w6.cell? ⟨w1.heap.size, 2, none⟩ = some (.int .i64 (t : Int)) := CF.out.cell 2
                  have HNx := Lib.hid hnx; clear hnx
                  obtain ⟨Ax, cx, rfl, hcx, hrx⟩ := HNx.out.row
                  have Rx := Lib.hid hrx; have HCx := Lib.hid hcx; clear hrx hcx
                  have HNy := Lib.hid hny; clear hny
                  obtain ⟨Ay, cy, rfl, hcy, hry⟩ := HNy.out.row
                  have Ry := Lib.hid hry; have HCy := Lib.hid hcy; clear hry hcy
                  have d0 : w6.cell? ⟨w.heap.size, 0, none⟩ = some (.bool false) := RES.out.cell 0
                  have f0 : w6.frozen? ⟨w.heap.size, 0, none⟩ = false := RES.out.frozen 0
                  have d1 : w6.cell? ⟨w.heap.size, 1, none⟩ = some (.slice none 0 0) := RES.out.cell 1
                  have f1 : w6.frozen? ⟨w.heap.size, 1, none⟩ = false := RES.out.frozen 1
                  have d2 : w6.cell? ⟨w.heap.size, 2, none⟩ = some (.slice none 0 0) := RES.out.cell 2
                  have f2 : w6.frozen? ⟨w.heap.size, 2, none⟩ = false := RES.out.frozen 2
                  have D := Lib.hid (And.intro (RES.out.put3 (.bool (valQ s p q b).s) (.slice Ax (limbs (valQ s p q b).n).length cx) (.slice Ay (limbs (valQ s p q b).d).length cy)) (bel_set3 HW.out (Nat.le_refl _) (.bool (valQ s p q b).s) (.slice Ax (limbs (valQ s p q b).n).length cx) (.slice Ay (limbs (valQ s p q b).d).length cy)))
                  have N0 := Lib.hid (RdN.set3 RES.out (HNx.out) (.bool (valQ s p q b).s) (.slice Ax (limbs (valQ s p q b).n).length cx) (.slice Ay (limbs (valQ s p q b).d).length cy))
                  have N1 := Lib.hid (RdN.set3 RES.out (HNy.out) (.bool (valQ s p q b).s) (.slice Ax (limbs (valQ s p q b).n).length cx) (.slice Ay (limbs (valQ s p q b).d).length cy))
                  go_wp2
                  refine bodyPost_ret (v := .tuple #[.agg #[.bool (valQ s p q b).s, .slice Ax (limbs (valQ s p q b).n).length cx, .slice Ay (limbs (valQ s p q b).d).length cy], .int .i64 0]) ?hr15 rfl ?hR15
                  case hR15 => exact RetVal.fit (by rw [← (show P = LN p q b by rw [← HP.out]; exact HL.out.1)]; exact HFIT.out) (by rw [← (show 1 = LD p q b from HL.out.2)]; exact (small_top (by decide))) ⟨_, _, rfl, N0.out, N1.out, D.out.2⟩
                  case hr15 => exact results_row_tmp rfl _ _ (w.heap.size) 25 _ (0, 0) _ _ rfl rfl D.out.1 Try.underlying25 rfl (by kernel_rfl)
                · have HFIT := Lib.hid hfit; clear hfit
                  go_wp2_with fail
                  refine (shift_ovr A1 ca1 m1 j _ RN.out HT.out HP.out HFIT.out).mono ?_
                  rintro e w5 ⟨ve, rfl, hne, hbl⟩
                  replace Rn := Lib.hid (Rn.out.below hbl)
                  replace HNn := Lib.hid (HNn.out.below hbl)
                  replace Ro := Lib.hid (Ro.out.below hbl)
                  replace HNo := Lib.hid (HNo.out.below hbl)
                  replace RN := Lib.hid (RN.out.below hbl)
                  replace RES := Lib.hid (RES.out.below hbl RES.out.lt)
                  replace CF := Lib.hid (CF.out.below hbl CF.out.lt)
                  replace HW := Lib.hid (bel_trans HW.out hbl); clear hbl
                  clear CF0 CF1 CF2
                  have CF0 : w5.cell? ⟨w1.heap.size, 0, none⟩ = some (.int .i64 (p : Int)) := CF.out.cell 0
                  have CF1 : w5.cell? ⟨w1.heap.size, 1, none⟩ = some (.int .i64 (q : Int)) := CF.out.cell 1
                  have CF2 : w5.cell? ⟨w1.heap.size, 2, none⟩ = some (.int .i64 (t : Int)) := CF.out.cell 2
                  have HNe := Lib.hid hne; clear hne
                  obtain ⟨Ae, ce, rfl, hce, hre⟩ := HNe.out.row
                  have Re := Lib.hid hre; have HCe := Lib.hid hce; clear hre hce
                  have d0 : w5.cell? ⟨w.heap.size, 0, none⟩ = some (.bool false) := RES.out.cell 0
                  have f0 : w5.frozen? ⟨w.heap.size, 0, none⟩ = false := RES.out.frozen 0
                  have d1 : w5.cell? ⟨w.heap.size, 1, none⟩ = some (.slice none 0 0) := RES.out.cell 1
                  have f1 : w5.frozen? ⟨w.heap.size, 1, none⟩ = false := RES.out.frozen 1
                  have d2 : w5.cell? ⟨w.heap.size, 2, none⟩ = some (.slice none 0 0) := RES.out.cell 2
                  have f2 : w5.frozen? ⟨w.heap.size, 2, none⟩ = false := RES.out.frozen 2
                  have D := Lib.hid (And.intro (RES.out.put3 (.bool false) (.slice none 0 0) (.slice none 0 0)) (bel_set3 HW.out (Nat.le_refl _) (.bool false) (.slice none 0 0) (.slice none 0 0)))
                  have N0 := Lib.hid (RdN.set3 RES.out (RdN.none0 _) (.bool false) (.slice none 0 0) (.slice none 0 0))
                  have N1 := Lib.hid (RdN.set3 RES.out (RdN.none0 _) (.bool false) (.slice none 0 0) (.slice none 0 0))
                  go_wp2
                  refine bodyPost_ret (v := .tuple #[.agg #[.bool false, .slice none 0 0, .slice none 0 0], .int .i64 2]) ?hr16 rfl ?hR16
                  case hR16 => exact RetVal.over (by have h1 := HL.out.1; have h2 := HFIT.out; have h3 := HP.out; omega) ⟨_, _, rfl, N0.out, N1.out, D.out.2⟩
                  case hr16 => exact results_row_tmp rfl _ _ (w.heap.size) 25 _ (0, 0) _ _ rfl rfl D.out.1 Try.underlying25 rfl (by kernel_rfl)

end Go.Proofs.Ytmbbdjpnecjleaa
