/-
  Layer 3's reference: a size's numbers, powers of two, a number's digits, the fraction of bits; walked.
  Layer 3's reference: the fraction of bits, two fractions compared, one less another one; walked.
-/
import Derived.Test.YtmbbdjpnecjleaaRoC
import Derived.Test.YtmbbdjpnecjleaaRoB
import Derived.Test.YtmbbdjpnecjleaaFRed
namespace Go.Proofs.Ytmbbdjpnecjleaa
section
open Go.RowKit

def RetI3 (v : Int) (w : World) (e : Ending) (w' : World) : Prop := e = .returned (.int .i64 v) ∧ Below w.heap.size w w'
def RetU3 (v : Nat) (w : World) (e : Ending) (w' : World) : Prop := e = .returned (.int .u64 (v : Int)) ∧ Below w.heap.size w w'
def RetF3 (n d : Nat) (w : World) (e : Ending) (w' : World) : Prop := e = .returned (.agg #[.string (dec n), .string (dec d)]) ∧ Below w.heap.size w w'
theorem refMant_any {sz : Int} {p q t : Nat} (hf : Fm sz p q t) (w : World) : Calls Try.prog 18 #[.int .i64 sz] w (RetI3 (p : Int) w) := by
  rcases hf with ⟨rfl, rfl, rfl, rfl⟩ | ⟨rfl, rfl, rfl, rfl⟩
  · go_enter Try.func18, Try.ntmps18
    go_wp2
    go_ret
    exact ⟨rfl, bel_refl _⟩
  · go_enter Try.func18, Try.ntmps18
    go_wp2
    go_ret
    exact ⟨rfl, bel_refl _⟩
theorem refLeast_any {sz : Int} {p q t : Nat} (hf : Fm sz p q t) (w : World) : Calls Try.prog 77 #[.int .i64 sz] w (RetI3 (q : Int) w) := by
  rcases hf with ⟨rfl, rfl, rfl, rfl⟩ | ⟨rfl, rfl, rfl, rfl⟩
  · go_enter Try.func77, Try.ntmps77
    go_wp2
    go_ret
    exact ⟨rfl, bel_refl _⟩
  · go_enter Try.func77, Try.ntmps77
    go_wp2
    go_ret
    exact ⟨rfl, bel_refl _⟩
theorem refHigh_any {sz : Int} {p q t : Nat} (hf : Fm sz p q t) (w : World) : Calls Try.prog 17 #[.int .i64 sz] w (RetU3 (t + q + 2) w) := by
  rcases hf with ⟨rfl, rfl, rfl, rfl⟩ | ⟨rfl, rfl, rfl, rfl⟩
  · go_enter Try.func17, Try.ntmps17
    go_wp2
    go_ret
    exact ⟨rfl, bel_refl _⟩
  · go_enter Try.func17, Try.ntmps17
    go_wp2
    go_ret
    exact ⟨rfl, bel_refl _⟩
set_option maxHeartbeats 400000 in
theorem refPow_any (n : Nat) (w : World) (hn : n ≤ 63) : Calls Try.prog 52 #[.int .i64 n] w (RetU3 (2 ^ n) w) := by
  go_enter Try.func52, Try.ntmps52
  go_wp2
  go_loopw [3, 4] (fun v iv wr => ∃ k : Nat, iv = .int .i64 (k : Int) ∧ k ≤ n ∧ v = .int .u64 ((2 ^ k : Nat) : Int) ∧ Below w.heap.size w wr) (fun _ i _ => n - (intOf i).toNat)
  case atStart => exact ⟨0, rfl, Nat.zero_le _, rfl, bel_refl _⟩
  case round =>
    obtain ⟨k, rfl, hk, rfl, hb⟩ := hrel
    have HB := Lib.hid hb; clear hb
    by_cases hlt : k < n
    · have hlt' : (k : Int) < (n : Int) := by omega
      obtain ⟨N, hN⟩ : ∃ N, N = 2 ^ k := ⟨_, rfl⟩
      have hNl : N ≤ 2 ^ 62 := by rw [hN]; exact Nat.pow_le_pow_right (by decide) (by omega)
      rw [← hN]
      have s1 : IntKind.u64.wrap (2 * (N : Int)) = ((2 * N : Nat) : Int) := by rw [IntKind.wrap_u64]; omega
      have hstep : Hid (2 * N = 2 ^ (k + 1)) := by show _ = _; rw [hN, Nat.pow_succ, Nat.mul_comm]
      clear hN hNl
      go_wp2
      go_roundw
      case rel => exact ⟨k + 1, by go_num, by omega, by rw [← hstep.out, Int.natCast_mul]; rfl, HB.out⟩
      case measure => simp [intOf]; omega
    · have hkn : k = n := by omega
      subst hkn
      go_wp2
      go_ret
      exact ⟨rfl, HB.out⟩
set_option maxRecDepth 100000 in
set_option maxHeartbeats 400000 in
theorem refTxt_any (n : Nat) (w : World) (hn : n < 18446744073709551616) : Calls Try.prog 78 #[.int .u64 n] w (RetS (dec n) w) := by
  obtain ⟨lo, hlo⟩ : ∃ lo, lo = n % 4294967296 := ⟨_, rfl⟩
  obtain ⟨hi, hhi⟩ : ∃ hi, hi = n / 4294967296 := ⟨_, rfl⟩
  have s1 : (n : Int) / 4294967296 = (hi : Int) := by omega
  have s2 : (n : Int) % 4294967296 = (lo : Int) := by omega
  have s3 : IntKind.i64.wrap (hi : Int) = (hi : Int) := by rw [IntKind.wrap_i64]; omega
  have s4 : IntKind.i64.wrap (lo : Int) = (lo : Int) := by rw [IntKind.wrap_i64]; omega
  have HE := Lib.hid (show n = hi * 4294967296 + lo ∧ hi < 4294967296 ∧ lo < 4294967296 by omega)
  clear hlo hhi
  go_enter Try.func78, Try.ntmps78
  go_wp2_with fail
  have h1 := refSmall_lit 1 hi 0 (hi : Int) 0 rfl rfl w (by decide) (Nat.le_of_lt HE.out.2.1) (by decide)
  rw [dec_one, Nat.one_mul, Nat.add_zero] at h1
  refine h1.mono ?_
  rintro e w1 ⟨rfl, hb1⟩
  have HB := Lib.hid hb1; clear hb1 h1
  go_wp2_with fail
  have hl : (decL hi).length ≤ 10000 := by
    have := decL_len_le (n := hi) (k := 20) (by have := HE.out.2.1; omega) (by omega)
    omega
  refine (refSmall_lit hi 4294967296 lo 4294967296 (lo : Int) rfl rfl w1 hl (Nat.le_refl _) (Nat.le_of_lt HE.out.2.2)).mono ?_
  rintro e w2 ⟨rfl, hb2⟩
  replace HB := Lib.hid (bel_trans HB.out hb2); clear hb2
  go_wp2
  go_ret
  refine ⟨?_, HB.out⟩
  rw [← HE.out.1]
  rfl
end
section
open Go.RowKit

theorem Blk.put2 {w : World} {g : Nat} {t : TypeId} {a b : Value} (h : Blk w g t #[a, b]) (x y : Value) :
    Blk ((w.setCell ⟨g, 0, none⟩ x).setCell ⟨g, 1, none⟩ y) g t #[x, y] := (h.put 0 x).put 1 y
theorem bel_set2 {w wk : World} {g : Nat} (h : Below w.heap.size w wk) (hg : w.heap.size ≤ g) (x y : Value) :
    Below w.heap.size w ((wk.setCell ⟨g, 0, none⟩ x).setCell ⟨g, 1, none⟩ y) := (h.setCell hg x).setCell hg y
theorem decL_pow {k : Nat} : (decL (2 ^ k)).length ≤ k + 1 := decL_len_le (Nat.lt_of_le_of_lt (Nat.pow_le_pow_left (by decide) k) (Nat.pow_lt_pow_right (by decide) (Nat.lt_succ_self k))) (by omega)
theorem decL_mul3 (a b : Nat) : (decL (a * b)).length ≤ (decL a).length + (decL b).length := by
  refine decL_len_le ?_ (by have := decL_len_pos a; omega)
  have h1 := decL_bound a
  have h2 := decL_bound b
  rw [Nat.pow_add]
  by_cases h : b = 0
  · rw [h, Nat.mul_zero]; exact Nat.mul_pos (Nat.pow_pos (by decide)) (Nat.pow_pos (by decide))
  · exact Nat.lt_of_lt_of_le (Nat.mul_lt_mul_of_pos_right h1 (Nat.pos_of_ne_zero h)) (Nat.mul_le_mul_left _ (Nat.le_of_lt h2))
def VNewF3 (B : Nat) (t : TypeId) (cs : Array Value) : World → Value → Prop := fun w v => ∃ g, v = .pointer (some ⟨g, 0, none⟩) ∧ B ≤ g ∧ Blk w g t cs
theorem VNewF3.lift (B : Nat) (t : TypeId) (cs : Array Value) : LiftP (VNewF3 B t cs) := fun _ _ _ ⟨g, h, h2, hb⟩ hbl => ⟨g, h, h2, hb.below hbl hb.lt⟩
theorem mul_len {a b : Nat} (h1 : (decL a).length ≤ 1000) (h2 : (decL b).length ≤ 1000) : (decL (a * b)).length ≤ 10000 := by
  have := decL_mul3 a b
  omega
theorem pow3_is (k P : Nat) (w : World) (h : 2 ^ k = P) (hk : k ≤ 1100) : Calls Try.prog 74 #[.int .i64 k] w (RetS (dec P) w) := by
  subst h
  exact refPower_any k w hk
theorem RetF3.is {n d n' d' : Nat} {w : World} {e : Ending} {w' : World} (h : RetF3 n d w e w') (hn : n = n') (hd : d = d') : RetF3 n' d' w e w' := by subst hn hd; exact h
theorem frac_z {p q b m x H : Nat} (e0 : x = 0) (hm : m = b % H) (hx : x = b / H) (hH : H = 2 ^ (p - 1)) {P : Nat} (hP : 2 ^ q = P) : (Ending.returned (.agg #[.string (dec m), .string (dec P)])) = .returned (.agg #[.string (dec (FN p q b)), .string (dec (FD p q b))]) := by
  rw [← hP]
  unfold FN FD mant expo
  rw [← hH, ← hx, if_pos e0, e0]
  have h := Nat.div_add_mod b H
  rw [← hm, ← hx, e0, Nat.mul_zero, Nat.zero_add] at h
  rw [h]
  simp
theorem frac_n {p q b m x y z H M : Nat} (hM : M = m + H) (hy : x = y + 1) (hz : q = y + z) (hm : m = b % H) (hx : x = b / H) (hH : H = 2 ^ (p - 1)) {P : Nat} (hP : 2 ^ z = P) : (Ending.returned (.agg #[.string (dec M), .string (dec P)])) = .returned (.agg #[.string (dec (FN p q b)), .string (dec (FD p q b))]) := by
  rw [← hP]
  unfold FN FD mant expo
  rw [← hH, ← hx, if_neg (by omega), ← hm, ← hM, hy, hz, show y + 1 - 1 - (y + z) = 0 by omega, show y + z - (y + 1 - 1) = z by omega, Nat.pow_zero, Nat.mul_one]
theorem frac_p {p q b m x y z H M : Nat} (hM : M = m + H) (hy : x = y + 1) (hz : y = q + z) (hm : m = b % H) (hx : x = b / H) (hH : H = 2 ^ (p - 1)) {P : Nat} (hP : 2 ^ z = P) : (Ending.returned (.agg #[.string (dec (M * P)), .string (dec 1)])) = .returned (.agg #[.string (dec (FN p q b)), .string (dec (FD p q b))]) := by
  rw [← hP]
  unfold FN FD mant expo
  rw [← hH, ← hx, if_neg (by omega), ← hm, ← hM, hy, hz, show q + z + 1 - 1 - q = z by omega, show q - (q + z + 1 - 1) = 0 by omega, Nat.pow_zero]
set_option maxRecDepth 100000 in
set_option maxHeartbeats 1000000 in
theorem refFrac_z {sz : Int} {p q t : Nat} (hf : Fm sz p q t) (b : Nat) (w : World) (hb : b ≤ (t + q + 2) * 2 ^ (p - 1)) (e0 : b / 2 ^ (p - 1) = 0) :
    Calls Try.prog 48 #[.int .u64 (b : Int), .int .i64 sz] w (RetF3 (FN p q b) (FD p q b) w) := by
  obtain ⟨op1, op2, oq0, oq, ot, os1, os2⟩ := hf.ok
  have HF := Lib.hid hf; clear hf
  obtain ⟨H, hH⟩ : ∃ H, H = 2 ^ (p - 1) := ⟨_, rfl⟩
  have hH1 : H ≤ 4503599627370496 := by rw [hH]; exact Nat.pow_le_pow_right (n := 2) (j := 52) (by decide) (by omega)
  have hH0 : 0 < H := by rw [hH]; exact Nat.pow_pos (by decide)
  rw [← hH] at hb e0
  obtain ⟨m, hm⟩ : ∃ m, m = b % H := ⟨_, rfl⟩
  obtain ⟨x, hx⟩ : ∃ x, x = b / H := ⟨_, rfl⟩
  have hm1 : m < H := by rw [hm]; exact Nat.mod_lt _ hH0
  have hx1 : x ≤ t + q + 2 := by rw [hx]; exact Nat.div_le_of_le_mul (by rw [Nat.mul_comm]; exact hb)
  have s0 : IntKind.i64.wrap ((p : Int) - 1) = ((p - 1 : Nat) : Int) := by rw [IntKind.wrap_i64]; omega
  have s1 : (b : Int) % (H : Int) = (m : Int) := by rw [hm]; exact (Int.natCast_emod b H).symm
  have s2 : (b : Int) / (H : Int) = (x : Int) := by rw [hx]; exact (Int.natCast_ediv b H).symm
  have s3 : IntKind.i64.wrap (x : Int) = (x : Int) := by rw [IntKind.wrap_i64]; omega
  have s9 : IntKind.u64.wrap (x : Int) = (x : Int) := by rw [IntKind.wrap_u64]; omega
  have z1 : ¬ (H : Int) = 0 := by omega
  have z2 : ((H : Int) == 0) = false := by simpa using z1
  rw [← hx] at e0
  have e9 : ((x : Int) == 0) = true := by simp [e0]
  have e8 : (x : Int) = 0 := by omega
  have s5 : IntKind.i64.wrap (0 - (q : Int)) = -(q : Int) := by rw [IntKind.wrap_i64]; omega
  have s6 : IntKind.i64.wrap (- (q : Int)) = -(q : Int) := by rw [IntKind.wrap_i64]; omega
  have c1 : (-(q : Int) < 0) := by omega
  have s8 : IntKind.i64.wrap (q : Int) = (q : Int) := by rw [IntKind.wrap_i64]; omega
  have HM := Lib.hid (And.intro hm (And.intro hx (And.intro hH hm1))); clear hm hx hH hm1
  have HO := Lib.hid (And.intro op1 (And.intro op2 (And.intro oq0 (And.intro oq (And.intro ot (And.intro hH1 hx1)))))); clear op1 op2 oq0 oq ot os1 os2 hH1 hx1 hb
  obtain ⟨wa, hwa⟩ : ∃ wa, wa = w.alloc (.cells #[.string ⟨#[]⟩, .string ⟨#[]⟩] 38) := ⟨_, rfl⟩
  have hbl : Below w.heap.size w wa := by rw [hwa]; exact bel_alloc (bel_refl _) _
  have RES : Blk wa (w.heap.size) 38 #[.string ⟨#[]⟩, .string ⟨#[]⟩] := by
    have hz := Blk.new (w) 38 #[.string ⟨#[]⟩, .string ⟨#[]⟩]
    rw [hwa]
    exact hz
  have HW := Lib.hid hbl; clear hbl
  replace RES := Lib.hid RES
  go_enter Try.func48, Try.ntmps48
  go_wp2_with fail
  rw [← hwa]
  clear hwa
  refine (refMant_any HF.out _).mono ?_
  rintro e w1 ⟨rfl, hbl⟩
  replace RES := Lib.hid (RES.out.below hbl RES.out.lt)
  replace HW := Lib.hid (bel_trans HW.out hbl); clear hbl
  go_wp2_with fail
  refine (refPow_any (p - 1) _ (by have := HO.out.2.1; omega)).mono ?_
  rintro e w2 ⟨rfl, hbl⟩
  replace RES := Lib.hid (RES.out.below hbl RES.out.lt)
  replace HW := Lib.hid (bel_trans HW.out hbl); clear hbl
  rw [← HM.out.2.2.1]
  go_wp2_with fail
  refine (refLeast_any HF.out _).mono ?_
  rintro e w3 ⟨rfl, hbl⟩
  replace RES := Lib.hid (RES.out.below hbl RES.out.lt)
  replace HW := Lib.hid (bel_trans HW.out hbl); clear hbl
  go_wp2_with fail
  refine (refTxt_any m _ (by have := HM.out.2.2.2; have := HO.out.2.2.2.2.2.1; omega)).mono ?_
  rintro e w4 ⟨rfl, hbl⟩
  replace RES := Lib.hid (RES.out.below hbl RES.out.lt)
  replace HW := Lib.hid (bel_trans HW.out hbl); clear hbl
  obtain ⟨P, hP⟩ : ∃ P, 2 ^ q = P := ⟨_, rfl⟩
  have HP := Lib.hid hP; clear hP
  go_wp2_with fail
  refine (pow3_is q P _ HP.out (by have := HO.out.2.2.2.1; omega)).mono ?_
  rintro e w5 ⟨rfl, hbl⟩
  replace RES := Lib.hid (RES.out.below hbl RES.out.lt)
  replace HW := Lib.hid (bel_trans HW.out hbl); clear hbl
  have d0 : w5.cell? ⟨w.heap.size, 0, none⟩ = some (.string ⟨#[]⟩) := RES.out.cell 0
  have f0 : w5.frozen? ⟨w.heap.size, 0, none⟩ = false := RES.out.frozen 0
  have d1 : w5.cell? ⟨w.heap.size, 1, none⟩ = some (.string ⟨#[]⟩) := RES.out.cell 1
  have f1 : w5.frozen? ⟨w.heap.size, 1, none⟩ = false := RES.out.frozen 1
  have D := Lib.hid (And.intro (RES.out.put2 (.string (dec m)) (.string (dec P))) (bel_set2 (g := w.heap.size) HW.out (Nat.le_refl _) (.string (dec m)) (.string (dec P))))
  go_wp2
  refine bodyPost_ret (v := .agg #[.string (dec m), .string (dec P)]) ?hr1 rfl ?hR1
  case hR1 => exact ⟨(frac_z e0 HM.out.1 HM.out.2.1 HM.out.2.2.1 HP.out), D.out.2⟩
  case hr1 => exact results_cell_row rfl _ _ (w.heap.size) 38 _ (0, 0) _ rfl D.out.1 Try.underlying38 rfl (by kernel_rfl)

set_option maxRecDepth 100000 in
set_option maxHeartbeats 1000000 in
theorem refFrac_n {sz : Int} {p q t : Nat} (hf : Fm sz p q t) (b : Nat) (w : World) (hb : b ≤ (t + q + 2) * 2 ^ (p - 1)) (e0 : ¬ b / 2 ^ (p - 1) = 0) (e1 : b / 2 ^ (p - 1) - 1 < q) :
    Calls Try.prog 48 #[.int .u64 (b : Int), .int .i64 sz] w (RetF3 (FN p q b) (FD p q b) w) := by
  obtain ⟨op1, op2, oq0, oq, ot, os1, os2⟩ := hf.ok
  have HF := Lib.hid hf; clear hf
  obtain ⟨H, hH⟩ : ∃ H, H = 2 ^ (p - 1) := ⟨_, rfl⟩
  have hH1 : H ≤ 4503599627370496 := by rw [hH]; exact Nat.pow_le_pow_right (n := 2) (j := 52) (by decide) (by omega)
  have hH0 : 0 < H := by rw [hH]; exact Nat.pow_pos (by decide)
  rw [← hH] at hb e0 e1
  obtain ⟨m, hm⟩ : ∃ m, m = b % H := ⟨_, rfl⟩
  obtain ⟨x, hx⟩ : ∃ x, x = b / H := ⟨_, rfl⟩
  have hm1 : m < H := by rw [hm]; exact Nat.mod_lt _ hH0
  have hx1 : x ≤ t + q + 2 := by rw [hx]; exact Nat.div_le_of_le_mul (by rw [Nat.mul_comm]; exact hb)
  have s0 : IntKind.i64.wrap ((p : Int) - 1) = ((p - 1 : Nat) : Int) := by rw [IntKind.wrap_i64]; omega
  have s1 : (b : Int) % (H : Int) = (m : Int) := by rw [hm]; exact (Int.natCast_emod b H).symm
  have s2 : (b : Int) / (H : Int) = (x : Int) := by rw [hx]; exact (Int.natCast_ediv b H).symm
  have s3 : IntKind.i64.wrap (x : Int) = (x : Int) := by rw [IntKind.wrap_i64]; omega
  have s9 : IntKind.u64.wrap (x : Int) = (x : Int) := by rw [IntKind.wrap_u64]; omega
  have z1 : ¬ (H : Int) = 0 := by omega
  have z2 : ((H : Int) == 0) = false := by simpa using z1
  rw [← hx] at e0 e1
  have e9 : ((x : Int) == 0) = false := by simp [e0]
  have e8 : ¬ (x : Int) = 0 := by omega
  obtain ⟨M, hM9⟩ : ∃ M, M = m + H := ⟨_, rfl⟩
  have s4 : IntKind.u64.wrap ((m : Int) + (H : Int)) = (M : Int) := by rw [IntKind.wrap_u64]; omega
  have HM9 := Lib.hid (And.intro hM9 (show M ≤ 9007199254740992 by omega)); clear hM9
  obtain ⟨y, hy⟩ : ∃ y : Nat, x = y + 1 := ⟨x - 1, by omega⟩
  have s5 : IntKind.i64.wrap ((x : Int) - 1) = (y : Int) := by rw [IntKind.wrap_i64]; omega
  obtain ⟨z, hz⟩ : ∃ z : Nat, q = y + z := ⟨q - y, by omega⟩
  have hz0 : 0 < z := by omega
  have s6 : IntKind.i64.wrap ((y : Int) - (q : Int)) = -(z : Int) := by rw [IntKind.wrap_i64]; omega
  have s8 : IntKind.i64.wrap (z : Int) = (z : Int) := by rw [IntKind.wrap_i64]; omega
  have c1 : (-(z : Int) < 0) := by omega
  have HYZ := Lib.hid (And.intro hy hz); clear hy hz
  have HM := Lib.hid (And.intro hm (And.intro hx (And.intro hH hm1))); clear hm hx hH hm1
  have HO := Lib.hid (And.intro op1 (And.intro op2 (And.intro oq0 (And.intro oq (And.intro ot (And.intro hH1 hx1)))))); clear op1 op2 oq0 oq ot os1 os2 hH1 hx1 hb
  obtain ⟨wa, hwa⟩ : ∃ wa, wa = w.alloc (.cells #[.string ⟨#[]⟩, .string ⟨#[]⟩] 38) := ⟨_, rfl⟩
  have hbl : Below w.heap.size w wa := by rw [hwa]; exact bel_alloc (bel_refl _) _
  have RES : Blk wa (w.heap.size) 38 #[.string ⟨#[]⟩, .string ⟨#[]⟩] := by
    have hz := Blk.new (w) 38 #[.string ⟨#[]⟩, .string ⟨#[]⟩]
    rw [hwa]
    exact hz
  have HW := Lib.hid hbl; clear hbl
  replace RES := Lib.hid RES
  go_enter Try.func48, Try.ntmps48
  go_wp2_with fail
  rw [← hwa]
  clear hwa
  refine (refMant_any HF.out _).mono ?_
  rintro e w1 ⟨rfl, hbl⟩
  replace RES := Lib.hid (RES.out.below hbl RES.out.lt)
  replace HW := Lib.hid (bel_trans HW.out hbl); clear hbl
  go_wp2_with fail
  refine (refPow_any (p - 1) _ (by have := HO.out.2.1; omega)).mono ?_
  rintro e w2 ⟨rfl, hbl⟩
  replace RES := Lib.hid (RES.out.below hbl RES.out.lt)
  replace HW := Lib.hid (bel_trans HW.out hbl); clear hbl
  rw [← HM.out.2.2.1]
  go_wp2_with fail
  refine (refLeast_any HF.out _).mono ?_
  rintro e w3 ⟨rfl, hbl⟩
  replace RES := Lib.hid (RES.out.below hbl RES.out.lt)
  replace HW := Lib.hid (bel_trans HW.out hbl); clear hbl
  go_wp2_with fail
  refine (refTxt_any M _ (by have := HM9.out.2; omega)).mono ?_
  rintro e w4 ⟨rfl, hbl⟩
  replace RES := Lib.hid (RES.out.below hbl RES.out.lt)
  replace HW := Lib.hid (bel_trans HW.out hbl); clear hbl
  obtain ⟨P, hP⟩ : ∃ P, 2 ^ z = P := ⟨_, rfl⟩
  have HP := Lib.hid hP; clear hP
  go_wp2_with fail
  refine (pow3_is z P _ HP.out (by have := HO.out.2.2.2.1; have := HYZ.out.2; omega)).mono ?_
  rintro e w5 ⟨rfl, hbl⟩
  replace RES := Lib.hid (RES.out.below hbl RES.out.lt)
  replace HW := Lib.hid (bel_trans HW.out hbl); clear hbl
  have d0 : w5.cell? ⟨w.heap.size, 0, none⟩ = some (.string ⟨#[]⟩) := RES.out.cell 0
  have f0 : w5.frozen? ⟨w.heap.size, 0, none⟩ = false := RES.out.frozen 0
  have d1 : w5.cell? ⟨w.heap.size, 1, none⟩ = some (.string ⟨#[]⟩) := RES.out.cell 1
  have f1 : w5.frozen? ⟨w.heap.size, 1, none⟩ = false := RES.out.frozen 1
  have D := Lib.hid (And.intro (RES.out.put2 (.string (dec M)) (.string (dec P))) (bel_set2 (g := w.heap.size) HW.out (Nat.le_refl _) (.string (dec M)) (.string (dec P))))
  go_wp2
  refine bodyPost_ret (v := .agg #[.string (dec M), .string (dec P)]) ?hr2 rfl ?hR2
  case hR2 => exact ⟨(frac_n HM9.out.1 HYZ.out.1 HYZ.out.2 HM.out.1 HM.out.2.1 HM.out.2.2.1 HP.out), D.out.2⟩
  case hr2 => exact results_cell_row rfl _ _ (w.heap.size) 38 _ (0, 0) _ rfl D.out.1 Try.underlying38 rfl (by kernel_rfl)

set_option maxRecDepth 100000 in
set_option maxHeartbeats 1000000 in
theorem refFrac_p {sz : Int} {p q t : Nat} (hf : Fm sz p q t) (b : Nat) (w : World) (hb : b ≤ (t + q + 2) * 2 ^ (p - 1)) (e0 : ¬ b / 2 ^ (p - 1) = 0) (e1 : ¬ b / 2 ^ (p - 1) - 1 < q) :
    Calls Try.prog 48 #[.int .u64 (b : Int), .int .i64 sz] w (RetF3 (FN p q b) (FD p q b) w) := by
  obtain ⟨op1, op2, oq0, oq, ot, os1, os2⟩ := hf.ok
  have HF := Lib.hid hf; clear hf
  obtain ⟨H, hH⟩ : ∃ H, H = 2 ^ (p - 1) := ⟨_, rfl⟩
  have hH1 : H ≤ 4503599627370496 := by rw [hH]; exact Nat.pow_le_pow_right (n := 2) (j := 52) (by decide) (by omega)
  have hH0 : 0 < H := by rw [hH]; exact Nat.pow_pos (by decide)
  rw [← hH] at hb e0 e1
  obtain ⟨m, hm⟩ : ∃ m, m = b % H := ⟨_, rfl⟩
  obtain ⟨x, hx⟩ : ∃ x, x = b / H := ⟨_, rfl⟩
  have hm1 : m < H := by rw [hm]; exact Nat.mod_lt _ hH0
  have hx1 : x ≤ t + q + 2 := by rw [hx]; exact Nat.div_le_of_le_mul (by rw [Nat.mul_comm]; exact hb)
  have s0 : IntKind.i64.wrap ((p : Int) - 1) = ((p - 1 : Nat) : Int) := by rw [IntKind.wrap_i64]; omega
  have s1 : (b : Int) % (H : Int) = (m : Int) := by rw [hm]; exact (Int.natCast_emod b H).symm
  have s2 : (b : Int) / (H : Int) = (x : Int) := by rw [hx]; exact (Int.natCast_ediv b H).symm
  have s3 : IntKind.i64.wrap (x : Int) = (x : Int) := by rw [IntKind.wrap_i64]; omega
  have s9 : IntKind.u64.wrap (x : Int) = (x : Int) := by rw [IntKind.wrap_u64]; omega
  have z1 : ¬ (H : Int) = 0 := by omega
  have z2 : ((H : Int) == 0) = false := by simpa using z1
  rw [← hx] at e0 e1
  have e9 : ((x : Int) == 0) = false := by simp [e0]
  have e8 : ¬ (x : Int) = 0 := by omega
  obtain ⟨M, hM9⟩ : ∃ M, M = m + H := ⟨_, rfl⟩
  have s4 : IntKind.u64.wrap ((m : Int) + (H : Int)) = (M : Int) := by rw [IntKind.wrap_u64]; omega
  have HM9 := Lib.hid (And.intro hM9 (show M ≤ 9007199254740992 by omega)); clear hM9
  obtain ⟨y, hy⟩ : ∃ y : Nat, x = y + 1 := ⟨x - 1, by omega⟩
  have s5 : IntKind.i64.wrap ((x : Int) - 1) = (y : Int) := by rw [IntKind.wrap_i64]; omega
  obtain ⟨z, hz⟩ : ∃ z : Nat, y = q + z := ⟨y - q, by omega⟩
  have s6 : IntKind.i64.wrap ((y : Int) - (q : Int)) = (z : Int) := by rw [IntKind.wrap_i64]; omega
  have c1 : ¬ ((z : Int) < 0) := by omega
  have HYZ := Lib.hid (And.intro hy hz); clear hy hz
  have HM := Lib.hid (And.intro hm (And.intro hx (And.intro hH hm1))); clear hm hx hH hm1
  have HO := Lib.hid (And.intro op1 (And.intro op2 (And.intro oq0 (And.intro oq (And.intro ot (And.intro hH1 hx1)))))); clear op1 op2 oq0 oq ot os1 os2 hH1 hx1 hb
  obtain ⟨wa, hwa⟩ : ∃ wa, wa = w.alloc (.cells #[.string ⟨#[]⟩, .string ⟨#[]⟩] 38) := ⟨_, rfl⟩
  have hbl : Below w.heap.size w wa := by rw [hwa]; exact bel_alloc (bel_refl _) _
  have RES : Blk wa (w.heap.size) 38 #[.string ⟨#[]⟩, .string ⟨#[]⟩] := by
    have hz := Blk.new (w) 38 #[.string ⟨#[]⟩, .string ⟨#[]⟩]
    rw [hwa]
    exact hz
  have HW := Lib.hid hbl; clear hbl
  replace RES := Lib.hid RES
  go_enter Try.func48, Try.ntmps48
  go_wp2_with fail
  rw [← hwa]
  clear hwa
  refine (refMant_any HF.out _).mono ?_
  rintro e w1 ⟨rfl, hbl⟩
  replace RES := Lib.hid (RES.out.below hbl RES.out.lt)
  replace HW := Lib.hid (bel_trans HW.out hbl); clear hbl
  go_wp2_with fail
  refine (refPow_any (p - 1) _ (by have := HO.out.2.1; omega)).mono ?_
  rintro e w2 ⟨rfl, hbl⟩
  replace RES := Lib.hid (RES.out.below hbl RES.out.lt)
  replace HW := Lib.hid (bel_trans HW.out hbl); clear hbl
  rw [← HM.out.2.2.1]
  go_wp2_with fail
  refine (refLeast_any HF.out _).mono ?_
  rintro e w3 ⟨rfl, hbl⟩
  replace RES := Lib.hid (RES.out.below hbl RES.out.lt)
  replace HW := Lib.hid (bel_trans HW.out hbl); clear hbl
  go_wp2_with fail
  refine (refTxt_any M _ (by have := HM9.out.2; omega)).mono ?_
  rintro e w4 ⟨rfl, hbl⟩
  replace RES := Lib.hid (RES.out.below hbl RES.out.lt)
  replace HW := Lib.hid (bel_trans HW.out hbl); clear hbl
  obtain ⟨P, hP⟩ : ∃ P, 2 ^ z = P := ⟨_, rfl⟩
  have HP := Lib.hid hP; clear hP
  go_wp2_with fail
  refine (pow3_is z P _ HP.out (by have := HO.out.2.2.2.2; have := HYZ.out.1; have := HYZ.out.2; omega)).mono ?_
  rintro e w5 ⟨rfl, hbl⟩
  replace RES := Lib.hid (RES.out.below hbl RES.out.lt)
  replace HW := Lib.hid (bel_trans HW.out hbl); clear hbl
  go_wp2_with fail
  refine (refMul_any M P _ (by have := decL_len_le (n := M) (k := 20) (by have := HM9.out.2; omega) (by omega); omega) (by have h := decL_pow (k := z); rw [HP.out] at h; have := HO.out.2.2.2.2; have := HYZ.out.1; have := HYZ.out.2; omega)).mono ?_
  rintro e w6 ⟨rfl, hbl⟩
  replace RES := Lib.hid (RES.out.below hbl RES.out.lt)
  replace HW := Lib.hid (bel_trans HW.out hbl); clear hbl
  have d0 : w6.cell? ⟨w.heap.size, 0, none⟩ = some (.string ⟨#[]⟩) := RES.out.cell 0
  have f0 : w6.frozen? ⟨w.heap.size, 0, none⟩ = false := RES.out.frozen 0
  have d1 : w6.cell? ⟨w.heap.size, 1, none⟩ = some (.string ⟨#[]⟩) := RES.out.cell 1
  have f1 : w6.frozen? ⟨w.heap.size, 1, none⟩ = false := RES.out.frozen 1
  have D := Lib.hid (And.intro (RES.out.put2 (.string (dec (M * P))) (.string (dec 1))) (bel_set2 (g := w.heap.size) HW.out (Nat.le_refl _) (.string (dec (M * P))) (.string (dec 1))))
  go_wp2
  refine bodyPost_ret (v := .agg #[.string (dec (M * P)), .string (dec 1)]) ?hr3 rfl ?hR3
  case hR3 => exact ⟨(frac_p HM9.out.1 HYZ.out.1 HYZ.out.2 HM.out.1 HM.out.2.1 HM.out.2.2.1 HP.out), D.out.2⟩
  case hr3 => exact results_cell_row rfl _ _ (w.heap.size) 38 _ (0, 0) _ rfl D.out.1 Try.underlying38 rfl (by kernel_rfl)

theorem refFrac_any {sz : Int} {p q t : Nat} (hf : Fm sz p q t) (b : Nat) (w : World) (hb : b ≤ (t + q + 2) * 2 ^ (p - 1)) : Calls Try.prog 48 #[.int .u64 (b : Int), .int .i64 sz] w (RetF3 (FN p q b) (FD p q b) w) := by
  by_cases e0 : b / 2 ^ (p - 1) = 0
  · exact refFrac_z hf b w hb e0
  · by_cases e1 : b / 2 ^ (p - 1) - 1 < q
    · exact refFrac_n hf b w hb e0 e1
    · exact refFrac_p hf b w hb e0 e1
set_option maxRecDepth 100000 in
set_option maxHeartbeats 1000000 in
theorem refCmp3_any (n d n' d' : Nat) (w : World) (h1 : (decL n).length ≤ 1000) (h2 : (decL d).length ≤ 1000) (h3 : (decL n').length ≤ 1000) (h4 : (decL d').length ≤ 1000) :
    Calls Try.prog 53 #[.agg #[.string (dec n), .string (dec d)], .agg #[.string (dec n'), .string (dec d')]] w (RetIB (cmpI (((n * d') : Nat) : Int) (((n' * d) : Nat) : Int)) w) := by
  have HL := Lib.hid (And.intro h1 (And.intro h2 (And.intro h3 h4))); clear h1 h2 h3 h4
  obtain ⟨wa, hwa⟩ : ∃ wa, wa = (w.alloc (.cells #[.string (dec n), .string (dec d)] 38)).alloc (.cells #[.string (dec n'), .string (dec d')] 38) := ⟨_, rfl⟩
  have hbl : Below w.heap.size w wa := by rw [hwa]; exact bel_alloc (bel_alloc (bel_refl _) _) _
  have CA : Blk wa (w.heap.size) 38 #[.string (dec n), .string (dec d)] := by
    have hz := Blk.new (w) 38 #[.string (dec n), .string (dec d)]
    rw [hwa]
    exact (hz.alloc _)
  have CB : Blk wa (w.heap.size + 1) 38 #[.string (dec n'), .string (dec d')] := by
    have hz := Blk.new (w.alloc (.cells #[.string (dec n), .string (dec d)] 38)) 38 #[.string (dec n'), .string (dec d')]
    rw [World.size_alloc] at hz
    rw [hwa]
    exact hz
  have HW := Lib.hid hbl; clear hbl
  replace CA := Lib.hid CA
  replace CB := Lib.hid CB
  go_enter Try.func53, Try.ntmps53
  go_wp2_with fail
  rw [← hwa]
  clear hwa
  refine wp_region_typed 12 (TOf [VIs (.pointer (some ⟨w.heap.size, 0, none⟩)),
      VIs (.string (dec n)),
      VIs (.pointer (some ⟨w.heap.size + 1, 1, none⟩)),
      VIs (.string (dec d')),
      VIs (.string (dec (n * d'))),
      VIs (.pointer (some ⟨w.heap.size + 1, 0, none⟩)),
      VIs (.string (dec n')),
      VIs (.pointer (some ⟨w.heap.size, 1, none⟩)),
      VIs (.string (dec d)),
      VIs (.string (dec (n' * d))),
      VIs (.int .i64 (cmpI (((n * d') : Nat) : Int) (((n' * d) : Nat) : Int))),
      VIs (.int .i64 (cmpI (((n * d') : Nat) : Int) (((n' * d) : Nat) : Int)))]) (by kernel_rfl) (by kernel_rfl) (by kernel_rfl) (LiftAll.at_ (.cons (VIs.lift _) (.cons (VIs.lift _) (.cons (VIs.lift _) (.cons (VIs.lift _) (.cons (VIs.lift _) (.cons (VIs.lift _) (.cons (VIs.lift _) (.cons (VIs.lift _) (.cons (VIs.lift _) (.cons (VIs.lift _) (.cons (VIs.lift _) (.cons (VIs.lift _) .nil))))))))))))) (steps_all (steps_cons ?_ (steps_cons ?_ (steps_cons ?_ (steps_cons ?_ (steps_cons ?_ (steps_cons ?_ (steps_cons ?_ (steps_cons ?_ (steps_cons ?_ (steps_cons ?_ (steps_cons ?_ (steps_cons ?_ steps_zero))))))))))))) ?fin
  · intro a0 w9 K9 hF hB hK hC
    have b2 := hF.base (k := 2) (v := .pointer (some ⟨w.heap.size, 0, none⟩)) (by kernel_rfl) rfl
    clear hF hB hK
    go_simp
    exact hC _ _ (bel_refl _) fun _ _ => rfl
  · intro a0 w9 K9 hF hB hK hC
    obtain ⟨v5, e5, z5⟩ := dep hK 0 (g := .data) (j := 0) (k := 5) rfl rfl rfl
    have z5 : v5 = .pointer (some ⟨w.heap.size, 0, none⟩) := z5
    subst z5
    have x9 : w9.cell? ⟨w.heap.size, 0, none⟩ = some (.string (dec n)) := (CA.out.below hB CA.out.lt).cell 0
    clear hF hB hK
    go_simp
    exact hC _ _ (bel_refl _) fun _ _ => rfl
  · intro a0 w9 K9 hF hB hK hC
    have b3 := hF.base (k := 3) (v := .pointer (some ⟨w.heap.size + 1, 0, none⟩)) (by kernel_rfl) rfl
    clear hF hB hK
    go_simp
    exact hC _ _ (bel_refl _) fun _ _ => rfl
  · intro a0 w9 K9 hF hB hK hC
    obtain ⟨v7, e7, z7⟩ := dep hK 0 (g := .data) (j := 2) (k := 7) rfl rfl rfl
    have z7 : v7 = .pointer (some ⟨w.heap.size + 1, 1, none⟩) := z7
    subst z7
    have x9 : w9.cell? ⟨w.heap.size + 1, 1, none⟩ = some (.string (dec d')) := (CB.out.below hB CB.out.lt).cell 1
    clear hF hB hK
    go_simp
    exact hC _ _ (bel_refl _) fun _ _ => rfl
  · intro a0 w9 K9 hF hB hK hC
    obtain ⟨v6, e6, z6⟩ := dep hK 0 (g := .data) (j := 1) (k := 6) rfl rfl rfl
    have z6 : v6 = .string (dec n) := z6
    subst z6
    obtain ⟨v8, e8, z8⟩ := dep hK 1 (g := .data) (j := 3) (k := 8) rfl rfl rfl
    have z8 : v8 = .string (dec d') := z8
    subst z8
    have HB9 := Lib.hid hB
    clear hF hB hK
    go_simp
    refine (refMul_any n d' _ HL.out.1 HL.out.2.2.2).mono ?_
    rintro e w7 ⟨rfl, hbl⟩
    exact hC _ _ hbl fun _ _ => rfl
  · intro a0 w9 K9 hF hB hK hC
    have b3 := hF.base (k := 3) (v := .pointer (some ⟨w.heap.size + 1, 0, none⟩)) (by kernel_rfl) rfl
    clear hF hB hK
    go_simp
    exact hC _ _ (bel_refl _) fun _ _ => rfl
  · intro a0 w9 K9 hF hB hK hC
    obtain ⟨v10, e10, z10⟩ := dep hK 0 (g := .data) (j := 5) (k := 10) rfl rfl rfl
    have z10 : v10 = .pointer (some ⟨w.heap.size + 1, 0, none⟩) := z10
    subst z10
    have x9 : w9.cell? ⟨w.heap.size + 1, 0, none⟩ = some (.string (dec n')) := (CB.out.below hB CB.out.lt).cell 0
    clear hF hB hK
    go_simp
    exact hC _ _ (bel_refl _) fun _ _ => rfl
  · intro a0 w9 K9 hF hB hK hC
    have b2 := hF.base (k := 2) (v := .pointer (some ⟨w.heap.size, 0, none⟩)) (by kernel_rfl) rfl
    clear hF hB hK
    go_simp
    exact hC _ _ (bel_refl _) fun _ _ => rfl
  · intro a0 w9 K9 hF hB hK hC
    obtain ⟨v12, e12, z12⟩ := dep hK 0 (g := .data) (j := 7) (k := 12) rfl rfl rfl
    have z12 : v12 = .pointer (some ⟨w.heap.size, 1, none⟩) := z12
    subst z12
    have x9 : w9.cell? ⟨w.heap.size, 1, none⟩ = some (.string (dec d)) := (CA.out.below hB CA.out.lt).cell 1
    clear hF hB hK
    go_simp
    exact hC _ _ (bel_refl _) fun _ _ => rfl
  · intro a0 w9 K9 hF hB hK hC
    obtain ⟨v11, e11, z11⟩ := dep hK 0 (g := .data) (j := 6) (k := 11) rfl rfl rfl
    have z11 : v11 = .string (dec n') := z11
    subst z11
    obtain ⟨v13, e13, z13⟩ := dep hK 1 (g := .data) (j := 8) (k := 13) rfl rfl rfl
    have z13 : v13 = .string (dec d) := z13
    subst z13
    have HB9 := Lib.hid hB
    clear hF hB hK
    go_simp
    refine (refMul_any n' d _ HL.out.2.2.1 HL.out.2.1).mono ?_
    rintro e w7 ⟨rfl, hbl⟩
    exact hC _ _ hbl fun _ _ => rfl
  · intro a0 w9 K9 hF hB hK hC
    obtain ⟨v9, e9, z9⟩ := dep hK 0 (g := .data) (j := 4) (k := 9) rfl rfl rfl
    have z9 : v9 = .string (dec (n * d')) := z9
    subst z9
    obtain ⟨v14, e14, z14⟩ := dep hK 1 (g := .data) (j := 9) (k := 14) rfl rfl rfl
    have z14 : v14 = .string (dec (n' * d)) := z14
    subst z14
    have HB9 := Lib.hid hB
    clear hF hB hK
    go_simp
    refine (refCmp_bb (n * d') (n' * d) _).mono ?_
    rintro e w7 ⟨rfl, hbl⟩
    exact hC _ _ hbl fun _ _ => rfl
  · intro a0 w9 K9 hF hB hK hC
    obtain ⟨v15, e15, z15⟩ := dep hK 0 (g := .data) (j := 10) (k := 15) rfl rfl rfl
    have z15 : v15 = .int .i64 (cmpI (((n * d') : Nat) : Int) (((n' * d) : Nat) : Int)) := z15
    subst z15
    clear hF hB hK
    go_simp
    exact hC _ _ (bel_refl _) fun _ _ => rfl
  case fin =>
    intro a0 w9 hF hB hK
    have b2 := hF.base (k := 2) (v := .pointer (some ⟨w.heap.size, 0, none⟩)) (by kernel_rfl) rfl
    have b3 := hF.base (k := 3) (v := .pointer (some ⟨w.heap.size + 1, 0, none⟩)) (by kernel_rfl) rfl
    have hsz := hF.size
    have hdf := hF.defers
    clear hF
    obtain ⟨v4, e4, z4⟩ := known hK 11 (k := 4) (by decide) rfl
    have z4 : v4 = .int .i64 (cmpI (((n * d') : Nat) : Int) (((n' * d) : Nat) : Int)) := z4
    subst z4
    clear hK
    obtain ⟨⟨l0⟩, df⟩ := a0
    have hs0 : l0.length = 16 := hsz
    clear hsz
    replace hdf : df = _ := hdf
    subst hdf
    obtain ⟨u, rfl⟩ := lits_16 hs0
    clear hs0
    have q2 : u 2 = _ := Option.some.inj b2
    clear b2
    have q3 : u 3 = _ := Option.some.inj b3
    clear b3
    have q4 : u 4 = _ := Option.some.inj e4
    clear e4
    rw [q2, q3, q4]
    clear q2 q3 q4
    have hbl := hB; clear hB
    replace CA := Lib.hid (CA.out.below hbl CA.out.lt)
    replace CB := Lib.hid (CB.out.below hbl CB.out.lt)
    replace HW := Lib.hid (bel_trans HW.out hbl); clear hbl
    refine wpList_nil ?_
    go_wp2
    go_ret
    exact ⟨rfl, HW.out⟩

set_option maxRecDepth 100000 in
set_option maxHeartbeats 1000000 in
theorem refLess3_any (n d n' d' : Nat) (w : World) (h1 : (decL n).length ≤ 1000) (h2 : (decL d).length ≤ 1000) (h3 : (decL n').length ≤ 1000) (h4 : (decL d').length ≤ 1000) (hle : (n' * d) ≤ (n * d')) :
    Calls Try.prog 54 #[.agg #[.string (dec n), .string (dec d)], .agg #[.string (dec n'), .string (dec d')]] w (RetF3 ((n * d') - (n' * d)) (d * d') w) := by
  have HL := Lib.hid (And.intro h1 (And.intro h2 (And.intro h3 h4))); clear h1 h2 h3 h4
  have LE := Lib.hid hle; clear hle
  obtain ⟨wa, hwa⟩ : ∃ wa, wa = ((w.alloc (.cells #[.string (dec n), .string (dec d)] 38)).alloc (.cells #[.string (dec n'), .string (dec d')] 38)).alloc (.cells #[.string ⟨#[]⟩, .string ⟨#[]⟩] 38) := ⟨_, rfl⟩
  have hbl : Below w.heap.size w wa := by rw [hwa]; exact bel_alloc (bel_alloc (bel_alloc (bel_refl _) _) _) _
  have CA : Blk wa (w.heap.size) 38 #[.string (dec n), .string (dec d)] := by
    have hz := Blk.new (w) 38 #[.string (dec n), .string (dec d)]
    rw [hwa]
    exact ((hz.alloc _).alloc _)
  have CB : Blk wa (w.heap.size + 1) 38 #[.string (dec n'), .string (dec d')] := by
    have hz := Blk.new (w.alloc (.cells #[.string (dec n), .string (dec d)] 38)) 38 #[.string (dec n'), .string (dec d')]
    rw [World.size_alloc] at hz
    rw [hwa]
    exact (hz.alloc _)
  have RES : Blk wa (w.heap.size + 2) 38 #[.string ⟨#[]⟩, .string ⟨#[]⟩] := by
    have hz := Blk.new ((w.alloc (.cells #[.string (dec n), .string (dec d)] 38)).alloc (.cells #[.string (dec n'), .string (dec d')] 38)) 38 #[.string ⟨#[]⟩, .string ⟨#[]⟩]
    rw [World.size_alloc, World.size_alloc] at hz
    rw [hwa]
    exact hz
  have HW := Lib.hid hbl; clear hbl
  replace CA := Lib.hid CA
  replace CB := Lib.hid CB
  replace RES := Lib.hid RES
  go_enter Try.func54, Try.ntmps54
  go_wp2_with fail
  rw [← hwa]
  clear hwa
  refine wp_region_typed 17 (TOf [VIs (.pointer (some ⟨w.heap.size, 0, none⟩)),
      VIs (.string (dec n)),
      VIs (.pointer (some ⟨w.heap.size + 1, 1, none⟩)),
      VIs (.string (dec d')),
      VIs (.string (dec (n * d'))),
      VIs (.pointer (some ⟨w.heap.size + 1, 0, none⟩)),
      VIs (.string (dec n')),
      VIs (.pointer (some ⟨w.heap.size, 1, none⟩)),
      VIs (.string (dec d)),
      VIs (.string (dec (n' * d))),
      VIs (.string (dec ((n * d') - (n' * d)))),
      VIs (.pointer (some ⟨w.heap.size, 1, none⟩)),
      VIs (.string (dec d)),
      VIs (.pointer (some ⟨w.heap.size + 1, 1, none⟩)),
      VIs (.string (dec d')),
      VIs (.string (dec (d * d'))),
      VIs (.agg #[.string (dec ((n * d') - (n' * d))), .string (dec (d * d'))])]) (by kernel_rfl) (by kernel_rfl) (by kernel_rfl) (LiftAll.at_ (.cons (VIs.lift _) (.cons (VIs.lift _) (.cons (VIs.lift _) (.cons (VIs.lift _) (.cons (VIs.lift _) (.cons (VIs.lift _) (.cons (VIs.lift _) (.cons (VIs.lift _) (.cons (VIs.lift _) (.cons (VIs.lift _) (.cons (VIs.lift _) (.cons (VIs.lift _) (.cons (VIs.lift _) (.cons (VIs.lift _) (.cons (VIs.lift _) (.cons (VIs.lift _) (.cons (VIs.lift _) .nil)))))))))))))))))) (steps_all (steps_cons ?_ (steps_cons ?_ (steps_cons ?_ (steps_cons ?_ (steps_cons ?_ (steps_cons ?_ (steps_cons ?_ (steps_cons ?_ (steps_cons ?_ (steps_cons ?_ (steps_cons ?_ (steps_cons ?_ (steps_cons ?_ (steps_cons ?_ (steps_cons ?_ (steps_cons ?_ (steps_cons ?_ steps_zero)))))))))))))))))) ?fin
  · intro a0 w9 K9 hF hB hK hC
    have b2 := hF.base (k := 2) (v := .pointer (some ⟨w.heap.size, 0, none⟩)) (by kernel_rfl) rfl
    clear hF hB hK
    go_simp
    exact hC _ _ (bel_refl _) fun _ _ => rfl
  · intro a0 w9 K9 hF hB hK hC
    obtain ⟨v5, e5, z5⟩ := dep hK 0 (g := .data) (j := 0) (k := 5) rfl rfl rfl
    have z5 : v5 = .pointer (some ⟨w.heap.size, 0, none⟩) := z5
    subst z5
    have x9 : w9.cell? ⟨w.heap.size, 0, none⟩ = some (.string (dec n)) := (CA.out.below hB CA.out.lt).cell 0
    clear hF hB hK
    go_simp
    exact hC _ _ (bel_refl _) fun _ _ => rfl
  · intro a0 w9 K9 hF hB hK hC
    have b3 := hF.base (k := 3) (v := .pointer (some ⟨w.heap.size + 1, 0, none⟩)) (by kernel_rfl) rfl
    clear hF hB hK
    go_simp
    exact hC _ _ (bel_refl _) fun _ _ => rfl
  · intro a0 w9 K9 hF hB hK hC
    obtain ⟨v7, e7, z7⟩ := dep hK 0 (g := .data) (j := 2) (k := 7) rfl rfl rfl
    have z7 : v7 = .pointer (some ⟨w.heap.size + 1, 1, none⟩) := z7
    subst z7
    have x9 : w9.cell? ⟨w.heap.size + 1, 1, none⟩ = some (.string (dec d')) := (CB.out.below hB CB.out.lt).cell 1
    clear hF hB hK
    go_simp
    exact hC _ _ (bel_refl _) fun _ _ => rfl
  · intro a0 w9 K9 hF hB hK hC
    obtain ⟨v6, e6, z6⟩ := dep hK 0 (g := .data) (j := 1) (k := 6) rfl rfl rfl
    have z6 : v6 = .string (dec n) := z6
    subst z6
    obtain ⟨v8, e8, z8⟩ := dep hK 1 (g := .data) (j := 3) (k := 8) rfl rfl rfl
    have z8 : v8 = .string (dec d') := z8
    subst z8
    have HB9 := Lib.hid hB
    clear hF hB hK
    go_simp
    refine (refMul_any n d' _ HL.out.1 HL.out.2.2.2).mono ?_
    rintro e w7 ⟨rfl, hbl⟩
    exact hC _ _ hbl fun _ _ => rfl
  · intro a0 w9 K9 hF hB hK hC
    have b3 := hF.base (k := 3) (v := .pointer (some ⟨w.heap.size + 1, 0, none⟩)) (by kernel_rfl) rfl
    clear hF hB hK
    go_simp
    exact hC _ _ (bel_refl _) fun _ _ => rfl
  · intro a0 w9 K9 hF hB hK hC
    obtain ⟨v10, e10, z10⟩ := dep hK 0 (g := .data) (j := 5) (k := 10) rfl rfl rfl
    have z10 : v10 = .pointer (some ⟨w.heap.size + 1, 0, none⟩) := z10
    subst z10
    have x9 : w9.cell? ⟨w.heap.size + 1, 0, none⟩ = some (.string (dec n')) := (CB.out.below hB CB.out.lt).cell 0
    clear hF hB hK
    go_simp
    exact hC _ _ (bel_refl _) fun _ _ => rfl
  · intro a0 w9 K9 hF hB hK hC
    have b2 := hF.base (k := 2) (v := .pointer (some ⟨w.heap.size, 0, none⟩)) (by kernel_rfl) rfl
    clear hF hB hK
    go_simp
    exact hC _ _ (bel_refl _) fun _ _ => rfl
  · intro a0 w9 K9 hF hB hK hC
    obtain ⟨v12, e12, z12⟩ := dep hK 0 (g := .data) (j := 7) (k := 12) rfl rfl rfl
    have z12 : v12 = .pointer (some ⟨w.heap.size, 1, none⟩) := z12
    subst z12
    have x9 : w9.cell? ⟨w.heap.size, 1, none⟩ = some (.string (dec d)) := (CA.out.below hB CA.out.lt).cell 1
    clear hF hB hK
    go_simp
    exact hC _ _ (bel_refl _) fun _ _ => rfl
  · intro a0 w9 K9 hF hB hK hC
    obtain ⟨v11, e11, z11⟩ := dep hK 0 (g := .data) (j := 6) (k := 11) rfl rfl rfl
    have z11 : v11 = .string (dec n') := z11
    subst z11
    obtain ⟨v13, e13, z13⟩ := dep hK 1 (g := .data) (j := 8) (k := 13) rfl rfl rfl
    have z13 : v13 = .string (dec d) := z13
    subst z13
    have HB9 := Lib.hid hB
    clear hF hB hK
    go_simp
    refine (refMul_any n' d _ HL.out.2.2.1 HL.out.2.1).mono ?_
    rintro e w7 ⟨rfl, hbl⟩
    exact hC _ _ hbl fun _ _ => rfl
  · intro a0 w9 K9 hF hB hK hC
    obtain ⟨v9, e9, z9⟩ := dep hK 0 (g := .data) (j := 4) (k := 9) rfl rfl rfl
    have z9 : v9 = .string (dec (n * d')) := z9
    subst z9
    obtain ⟨v14, e14, z14⟩ := dep hK 1 (g := .data) (j := 9) (k := 14) rfl rfl rfl
    have z14 : v14 = .string (dec (n' * d)) := z14
    subst z14
    have HB9 := Lib.hid hB
    clear hF hB hK
    go_simp
    refine (refSub_any (n * d') (n' * d) _ (mul_len HL.out.1 HL.out.2.2.2) (mul_len HL.out.2.2.1 HL.out.2.1) LE.out).mono ?_
    rintro e w7 ⟨rfl, hbl⟩
    exact hC _ _ hbl fun _ _ => rfl
  · intro a0 w9 K9 hF hB hK hC
    have b2 := hF.base (k := 2) (v := .pointer (some ⟨w.heap.size, 0, none⟩)) (by kernel_rfl) rfl
    clear hF hB hK
    go_simp
    exact hC _ _ (bel_refl _) fun _ _ => rfl
  · intro a0 w9 K9 hF hB hK hC
    obtain ⟨v16, e16, z16⟩ := dep hK 0 (g := .data) (j := 11) (k := 16) rfl rfl rfl
    have z16 : v16 = .pointer (some ⟨w.heap.size, 1, none⟩) := z16
    subst z16
    have x9 : w9.cell? ⟨w.heap.size, 1, none⟩ = some (.string (dec d)) := (CA.out.below hB CA.out.lt).cell 1
    clear hF hB hK
    go_simp
    exact hC _ _ (bel_refl _) fun _ _ => rfl
  · intro a0 w9 K9 hF hB hK hC
    have b3 := hF.base (k := 3) (v := .pointer (some ⟨w.heap.size + 1, 0, none⟩)) (by kernel_rfl) rfl
    clear hF hB hK
    go_simp
    exact hC _ _ (bel_refl _) fun _ _ => rfl
  · intro a0 w9 K9 hF hB hK hC
    obtain ⟨v18, e18, z18⟩ := dep hK 0 (g := .data) (j := 13) (k := 18) rfl rfl rfl
    have z18 : v18 = .pointer (some ⟨w.heap.size + 1, 1, none⟩) := z18
    subst z18
    have x9 : w9.cell? ⟨w.heap.size + 1, 1, none⟩ = some (.string (dec d')) := (CB.out.below hB CB.out.lt).cell 1
    clear hF hB hK
    go_simp
    exact hC _ _ (bel_refl _) fun _ _ => rfl
  · intro a0 w9 K9 hF hB hK hC
    obtain ⟨v17, e17, z17⟩ := dep hK 0 (g := .data) (j := 12) (k := 17) rfl rfl rfl
    have z17 : v17 = .string (dec d) := z17
    subst z17
    obtain ⟨v19, e19, z19⟩ := dep hK 1 (g := .data) (j := 14) (k := 19) rfl rfl rfl
    have z19 : v19 = .string (dec d') := z19
    subst z19
    have HB9 := Lib.hid hB
    clear hF hB hK
    go_simp
    refine (refMul_any d d' _ HL.out.2.1 HL.out.2.2.2).mono ?_
    rintro e w7 ⟨rfl, hbl⟩
    exact hC _ _ hbl fun _ _ => rfl
  · intro a0 w9 K9 hF hB hK hC
    obtain ⟨v15, e15, z15⟩ := dep hK 0 (g := .data) (j := 10) (k := 15) rfl rfl rfl
    have z15 : v15 = .string (dec ((n * d') - (n' * d))) := z15
    subst z15
    obtain ⟨v20, e20, z20⟩ := dep hK 1 (g := .data) (j := 15) (k := 20) rfl rfl rfl
    have z20 : v20 = .string (dec (d * d')) := z20
    subst z20
    have HB9 := Lib.hid hB
    clear hF hB hK
    go_simp
    exact hC _ _ (bel_refl _) fun _ _ => rfl
  case fin =>
    intro a0 w9 hF hB hK
    have b2 := hF.base (k := 2) (v := .pointer (some ⟨w.heap.size, 0, none⟩)) (by kernel_rfl) rfl
    have b3 := hF.base (k := 3) (v := .pointer (some ⟨w.heap.size + 1, 0, none⟩)) (by kernel_rfl) rfl
    have b4 := hF.base (k := 4) (v := .pointer (some ⟨w.heap.size + 2, 0, none⟩)) (by kernel_rfl) rfl
    have hsz := hF.size
    have hdf := hF.defers
    clear hF
    obtain ⟨v21, e21, z21⟩ := known hK 16 (k := 21) (by decide) rfl
    have z21 : v21 = .agg #[.string (dec ((n * d') - (n' * d))), .string (dec (d * d'))] := z21
    subst z21
    clear hK
    obtain ⟨⟨l0⟩, df⟩ := a0
    have hs0 : l0.length = 22 := hsz
    clear hsz
    replace hdf : df = _ := hdf
    subst hdf
    obtain ⟨u, rfl⟩ := lits_22 hs0
    clear hs0
    have q2 : u 2 = _ := Option.some.inj b2
    clear b2
    have q3 : u 3 = _ := Option.some.inj b3
    clear b3
    have q4 : u 4 = _ := Option.some.inj b4
    clear b4
    have q21 : u 21 = _ := Option.some.inj e21
    clear e21
    rw [q2, q3, q4, q21]
    clear q2 q3 q4 q21
    have hbl := hB; clear hB
    replace CA := Lib.hid (CA.out.below hbl CA.out.lt)
    replace CB := Lib.hid (CB.out.below hbl CB.out.lt)
    replace RES := Lib.hid (RES.out.below hbl RES.out.lt)
    replace HW := Lib.hid (bel_trans HW.out hbl); clear hbl
    simp only [List.drop_succ_cons, List.drop_zero]
    have d0 : w9.cell? ⟨w.heap.size + 2, 0, none⟩ = some (.string ⟨#[]⟩) := RES.out.cell 0
    have f0 : w9.frozen? ⟨w.heap.size + 2, 0, none⟩ = false := RES.out.frozen 0
    have d1 : w9.cell? ⟨w.heap.size + 2, 1, none⟩ = some (.string ⟨#[]⟩) := RES.out.cell 1
    have f1 : w9.frozen? ⟨w.heap.size + 2, 1, none⟩ = false := RES.out.frozen 1
    have D := Lib.hid (And.intro (RES.out.put2 (.string (dec ((n * d') - (n' * d)))) (.string (dec (d * d')))) (bel_set2 (g := w.heap.size + 2) HW.out (by omega) (.string (dec ((n * d') - (n' * d)))) (.string (dec (d * d')))))
    go_wp2
    refine bodyPost_ret (v := .agg #[.string (dec ((n * d') - (n' * d))), .string (dec (d * d'))]) ?hr4 rfl ?hR4
    case hR4 => exact ⟨rfl, D.out.2⟩
    case hr4 => exact results_cell_row rfl _ _ (w.heap.size + 2) 38 _ (0, 0) _ rfl D.out.1 Try.underlying38 rfl (by kernel_rfl)
end
end Go.Proofs.Ytmbbdjpnecjleaa
