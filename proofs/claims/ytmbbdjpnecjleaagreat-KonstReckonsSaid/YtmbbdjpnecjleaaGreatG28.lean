/-
 Parts: RoD.
-/
import Derived.Test.YtmbbdjpnecjleaaGreatG16
import Derived.Test.YtmbbdjpnecjleaaGreatG15
import Derived.Test.YtmbbdjpnecjleaaGreatG17
namespace Go.Proofs.YtmbbdjpnecjleaaGreat
section
set_option maxRecDepth 100000
set_option maxHeartbeats 1000000
section
open Go.RowKit

def RetI3 (v : Int) (w : World) (e : Ending) (w' : World) : Prop := e = .returned (.int .i64 v) ∧ Below w.heap.size w w'
def RetU3 (v : Nat) (w : World) (e : Ending) (w' : World) : Prop := e = .returned (.int .u64 (v : Int)) ∧ Below w.heap.size w w'
def RetF3 (n d : Nat) (w : World) (e : Ending) (w' : World) : Prop := e = .returned (.agg #[.string (dec n), .string (dec d)]) ∧ Below w.heap.size w w'
theorem refMant_any {sz : Int} {p q t : Nat} (hf : Fm sz p q t) (w : World) : Calls Tryz.prog 117 #[.int .i64 sz] w (RetI3 (p : Int) w) := by
 rcases hf with ⟨rfl, rfl, rfl, rfl⟩ | ⟨rfl, rfl, rfl, rfl⟩
 · go_enter Tryz.func117, Tryz.ntmps117
   go_wp2
   go_ret
   exact ⟨rfl, bel_refl _⟩
 · go_enter Tryz.func117, Tryz.ntmps117
   go_wp2
   go_ret
   exact ⟨rfl, bel_refl _⟩
theorem refLeast_any {sz : Int} {p q t : Nat} (hf : Fm sz p q t) (w : World) : Calls Tryz.prog 144 #[.int .i64 sz] w (RetI3 (q : Int) w) := by
 rcases hf with ⟨rfl, rfl, rfl, rfl⟩ | ⟨rfl, rfl, rfl, rfl⟩
 · go_enter Tryz.func144, Tryz.ntmps144
   go_wp2
   go_ret
   exact ⟨rfl, bel_refl _⟩
 · go_enter Tryz.func144, Tryz.ntmps144
   go_wp2
   go_ret
   exact ⟨rfl, bel_refl _⟩
theorem refHigh_any {sz : Int} {p q t : Nat} (hf : Fm sz p q t) (w : World) : Calls Tryz.prog 118 #[.int .i64 sz] w (RetU3 (t + q + 2) w) := by
 rcases hf with ⟨rfl, rfl, rfl, rfl⟩ | ⟨rfl, rfl, rfl, rfl⟩
 · go_enter Tryz.func118, Tryz.ntmps118
   go_wp2
   go_ret
   exact ⟨rfl, bel_refl _⟩
 · go_enter Tryz.func118, Tryz.ntmps118
   go_wp2
   go_ret
   exact ⟨rfl, bel_refl _⟩
theorem refPow_any (n : Nat) (w : World) (hn : n ≤ 63) : Calls Tryz.prog 141 #[.int .i64 n] w (RetU3 (2 ^ n) w) := by
 go_enter Tryz.func141, Tryz.ntmps141
 go_wp2
 go_loopw [3, 4] (fun v iv wr => ∃ k : Nat, iv = .int .i64 (k : Int) ∧ k ≤ n ∧ v = .int .u64 ((2 ^ k : Nat) : Int) ∧ Below w.heap.size w wr) (fun _ i _ => n - (intOf i).toNat)
 case atStart => exact ⟨0, rfl, Nat.zero_le _, rfl, bel_refl _⟩
 case round =>
  obtain ⟨k, rfl, hk, rfl, hb⟩ := hrel
  have HB := Lib.hid hb; clear hb
  by_cases hlt : k < n
  · have hlt' : (k : Int) < (n : Int) := by omega
    obtain ⟨N, hN⟩ : ∃ N, N = 2 ^ k := ⟨_, rfl⟩
    have hNl : N ≤ 2 ^ 62 := by rw [hN]; exact Nat.pow_le_pow_right (by decide) (by omega)
    rw [← hN]
    have s1 : IntKind.u64.wrap (2 * (N : Int)) = ((2 * N : Nat) : Int) := by rw [IntKind.wrap_u64]; omega
    have hstep : Hid (2 * N = 2 ^ (k + 1)) := by show _ = _; rw [hN, Nat.pow_succ, Nat.mul_comm]
    clear hN hNl
    go_wp2
    go_roundw
    case rel => exact ⟨k + 1, by go_num, by omega, by rw [← hstep.out, Int.natCast_mul]; rfl, HB.out⟩
    case measure => simp [intOf]; omega
  · have hkn : k = n := by omega
    subst hkn
    go_wp2
    go_ret
    exact ⟨rfl, HB.out⟩
theorem refTxt_any (n : Nat) (w : World) (hn : n < 18446744073709551616) : Calls Tryz.prog 145 #[.int .u64 n] w (RetS (dec n) w) := by
 obtain ⟨lo, hlo⟩ : ∃ lo, lo = n % 4294967296 := ⟨_, rfl⟩
 obtain ⟨hi, hhi⟩ : ∃ hi, hi = n / 4294967296 := ⟨_, rfl⟩
 have s1 : (n : Int) / 4294967296 = (hi : Int) := by omega
 have s2 : (n : Int) % 4294967296 = (lo : Int) := by omega
 have s3 : IntKind.i64.wrap (hi : Int) = (hi : Int) := by rw [IntKind.wrap_i64]; omega
 have s4 : IntKind.i64.wrap (lo : Int) = (lo : Int) := by rw [IntKind.wrap_i64]; omega
 have HE := Lib.hid (show n = hi * 4294967296 + lo ∧ hi < 4294967296 ∧ lo < 4294967296 by omega)
 clear hlo hhi
 go_enter Tryz.func145, Tryz.ntmps145
 go_wp2_with fail
 have h1 := refSmall_lit 1 hi 0 (hi : Int) 0 rfl rfl w (by decide) (Nat.le_of_lt HE.out.2.1) (by decide)
 rw [dec_one, Nat.one_mul, Nat.add_zero] at h1
 refine h1.mono ?_
 rintro e w1 ⟨rfl, hb1⟩
 have HB := Lib.hid hb1; clear hb1 h1
 go_wp2_with fail
 have hl : (decL hi).length ≤ 10000 := by
  have := decL_len_le (n := hi) (k := 20) (by have := HE.out.2.1; omega) (by omega)
  omega
 refine (refSmall_lit hi 4294967296 lo 4294967296 (lo : Int) rfl rfl w1 hl (Nat.le_refl _) (Nat.le_of_lt HE.out.2.2)).mono ?_
 rintro e w2 ⟨rfl, hb2⟩
 replace HB := Lib.hid (bel_trans HB.out hb2); clear hb2
 go_wp2
 go_ret
 refine ⟨?_, HB.out⟩
 rw [← HE.out.1]
 rfl
end
section
open Go.RowKit

theorem Blk.put2 {w : World} {g : Nat} {t : TypeId} {a b : Value} (h : Blk w g t #[a, b]) (x y : Value) :
 Blk ((w.setCell ⟨g, 0, none⟩ x).setCell ⟨g, 1, none⟩ y) g t #[x, y] := (h.put 0 x).put 1 y
theorem bel_set2 {w wk : World} {g : Nat} (h : Below w.heap.size w wk) (hg : w.heap.size ≤ g) (x y : Value) :
 Below w.heap.size w ((wk.setCell ⟨g, 0, none⟩ x).setCell ⟨g, 1, none⟩ y) := (h.setCell hg x).setCell hg y
theorem decL_pow {k : Nat} : (decL (2 ^ k)).length ≤ k + 1 := decL_len_le (Nat.lt_of_le_of_lt (Nat.pow_le_pow_left (by decide) k) (Nat.pow_lt_pow_right (by decide) (Nat.lt_succ_self k))) (by omega)
theorem decL_mul3 (a b : Nat) : (decL (a * b)).length ≤ (decL a).length + (decL b).length := by
 refine decL_len_le ?_ (by have := decL_len_pos a; omega)
 have h1 := decL_bound a
 have h2 := decL_bound b
 rw [Nat.pow_add]
 by_cases h : b = 0
 · rw [h, Nat.mul_zero]; exact Nat.mul_pos (Nat.pow_pos (by decide)) (Nat.pow_pos (by decide))
 · exact Nat.lt_of_lt_of_le (Nat.mul_lt_mul_of_pos_right h1 (Nat.pos_of_ne_zero h)) (Nat.mul_le_mul_left _ (Nat.le_of_lt h2))
def VNewF3 (B : Nat) (t : TypeId) (cs : Array Value) : World → Value → Prop := fun w v => ∃ g, v = .pointer (some ⟨g, 0, none⟩) ∧ B ≤ g ∧ Blk w g t cs
theorem VNewF3.lift (B : Nat) (t : TypeId) (cs : Array Value) : LiftP (VNewF3 B t cs) := fun _ _ _ ⟨g, h, h2, hb⟩ hbl => ⟨g, h, h2, hb.below hbl hb.lt⟩
theorem mul_len {a b : Nat} (h1 : (decL a).length ≤ 1000) (h2 : (decL b).length ≤ 1000) : (decL (a * b)).length ≤ 10000 := by
 have := decL_mul3 a b
 omega
theorem pow3_is (k P : Nat) (w : World) (h : 2 ^ k = P) (hk : k ≤ 1100) : Calls Tryz.prog 114 #[.int .i64 k] w (RetS (dec P) w) := by
 subst h
 exact refPower_any k w hk
theorem RetF3.is {n d n' d' : Nat} {w : World} {e : Ending} {w' : World} (h : RetF3 n d w e w') (hn : n = n') (hd : d = d') : RetF3 n' d' w e w' := by subst hn hd; exact h
theorem frac_z {p q b m x H : Nat} (e0 : x = 0) (hm : m = b % H) (hx : x = b / H) (hH : H = 2 ^ (p - 1)) {P : Nat} (hP : 2 ^ q = P) : (Ending.returned (.agg #[.string (dec m), .string (dec P)])) = .returned (.agg #[.string (dec (FN p q b)), .string (dec (FD p q b))]) := by
 rw [← hP]
 unfold FN FD mant expo
 rw [← hH, ← hx, if_pos e0, e0]
 have h := Nat.div_add_mod b H
 rw [← hm, ← hx, e0, Nat.mul_zero, Nat.zero_add] at h
 rw [h]
 simp
theorem frac_n {p q b m x y z H M : Nat} (hM : M = m + H) (hy : x = y + 1) (hz : q = y + z) (hm : m = b % H) (hx : x = b / H) (hH : H = 2 ^ (p - 1)) {P : Nat} (hP : 2 ^ z = P) : (Ending.returned (.agg #[.string (dec M), .string (dec P)])) = .returned (.agg #[.string (dec (FN p q b)), .string (dec (FD p q b))]) := by
 rw [← hP]
 unfold FN FD mant expo
 rw [← hH, ← hx, if_neg (by omega), ← hm, ← hM, hy, hz, show y + 1 - 1 - (y + z) = 0 by omega, show y + z - (y + 1 - 1) = z by omega, Nat.pow_zero, Nat.mul_one]
theorem frac_p {p q b m x y z H M : Nat} (hM : M = m + H) (hy : x = y + 1) (hz : y = q + z) (hm : m = b % H) (hx : x = b / H) (hH : H = 2 ^ (p - 1)) {P : Nat} (hP : 2 ^ z = P) : (Ending.returned (.agg #[.string (dec (M * P)), .string (dec 1)])) = .returned (.agg #[.string (dec (FN p q b)), .string (dec (FD p q b))]) := by
 rw [← hP]
 unfold FN FD mant expo
 rw [← hH, ← hx, if_neg (by omega), ← hm, ← hM, hy, hz, show q + z + 1 - 1 - q = z by omega, show q - (q + z + 1 - 1) = 0 by omega, Nat.pow_zero]
theorem refFrac_z {sz : Int} {p q t : Nat} (hf : Fm sz p q t) (b : Nat) (w : World) (hb : b ≤ (t + q + 2) * 2 ^ (p - 1)) (e0 : b / 2 ^ (p - 1) = 0) :
 Calls Tryz.prog 116 #[.int .u64 (b : Int), .int .i64 sz] w (RetF3 (FN p q b) (FD p q b) w) := by
 obtain ⟨op1, op2, oq0, oq, ot, os1, os2⟩ := hf.ok
 have HF := Lib.hid hf; clear hf
 obtain ⟨H, hH⟩ : ∃ H, H = 2 ^ (p - 1) := ⟨_, rfl⟩
 have hH1 : H ≤ 4503599627370496 := by rw [hH]; exact Nat.pow_le_pow_right (n := 2) (j := 52) (by decide) (by omega)
 have hH0 : 0 < H := by rw [hH]; exact Nat.pow_pos (by decide)
 rw [← hH] at hb e0
 obtain ⟨m, hm⟩ : ∃ m, m = b % H := ⟨_, rfl⟩
 obtain ⟨x, hx⟩ : ∃ x, x = b / H := ⟨_, rfl⟩
 have hm1 : m < H := by rw [hm]; exact Nat.mod_lt _ hH0
 have hx1 : x ≤ t + q + 2 := by rw [hx]; exact Nat.div_le_of_le_mul (by rw [Nat.mul_comm]; exact hb)
 have s0 : IntKind.i64.wrap ((p : Int) - 1) = ((p - 1 : Nat) : Int) := by rw [IntKind.wrap_i64]; omega
 have s1 : (b : Int) % (H : Int) = (m : Int) := by rw [hm]; exact (Int.natCast_emod b H).symm
 have s2 : (b : Int) / (H : Int) = (x : Int) := by rw [hx]; exact (Int.natCast_ediv b H).symm
 have s3 : IntKind.i64.wrap (x : Int) = (x : Int) := by rw [IntKind.wrap_i64]; omega
 have s9 : IntKind.u64.wrap (x : Int) = (x : Int) := by rw [IntKind.wrap_u64]; omega
 have z1 : ¬ (H : Int) = 0 := by omega
 have z2 : ((H : Int) == 0) = false := by simpa using z1
 rw [← hx] at e0
 have e9 : ((x : Int) == 0) = true := by simp [e0]
 have e8 : (x : Int) = 0 := by omega
 have s5 : IntKind.i64.wrap (0 - (q : Int)) = -(q : Int) := by rw [IntKind.wrap_i64]; omega
 have s6 : IntKind.i64.wrap (- (q : Int)) = -(q : Int) := by rw [IntKind.wrap_i64]; omega
 have c1 : (-(q : Int) < 0) := by omega
 have s8 : IntKind.i64.wrap (q : Int) = (q : Int) := by rw [IntKind.wrap_i64]; omega
 have HM := Lib.hid (And.intro hm (And.intro hx (And.intro hH hm1))); clear hm hx hH hm1
 have HO := Lib.hid (And.intro op1 (And.intro op2 (And.intro oq0 (And.intro oq (And.intro ot (And.intro hH1 hx1)))))); clear op1 op2 oq0 oq ot os1 os2 hH1 hx1 hb
 obtain ⟨wa, hwa⟩ : ∃ wa, wa = w.alloc (.cells #[.string ⟨#[]⟩, .string ⟨#[]⟩] 132) := ⟨_, rfl⟩
 obtain ⟨hbl, RES⟩ := sal1 hwa
 have HW := Lib.hid hbl; clear hbl
 go_enter Tryz.func116, Tryz.ntmps116
 go_wp2_with fail
 rw [← hwa]
 clear hwa
 refine (refMant_any HF.out _).mono ?_
 rintro e w1 ⟨rfl, hbl⟩
 replace RES := hmB RES hbl
 replace HW := hmW HW hbl; clear hbl
 go_wp2_with fail
 refine (refPow_any (p - 1) _ (by have := HO.out.2.1; omega)).mono ?_
 rintro e w2 ⟨rfl, hbl⟩
 replace RES := hmB RES hbl
 replace HW := hmW HW hbl; clear hbl
 rw [← HM.out.2.2.1]
 go_wp2_with fail
 refine (refLeast_any HF.out _).mono ?_
 rintro e w3 ⟨rfl, hbl⟩
 replace RES := hmB RES hbl
 replace HW := hmW HW hbl; clear hbl
 go_wp2_with fail
 refine (refTxt_any m _ (by have := HM.out.2.2.2; have := HO.out.2.2.2.2.2.1; omega)).mono ?_
 rintro e w4 ⟨rfl, hbl⟩
 replace RES := hmB RES hbl
 replace HW := hmW HW hbl; clear hbl
 obtain ⟨P, hP⟩ : ∃ P, 2 ^ q = P := ⟨_, rfl⟩
 have HP := Lib.hid hP; clear hP
 go_wp2_with fail
 refine (pow3_is q P _ HP.out (by have := HO.out.2.2.2.1; omega)).mono ?_
 rintro e w5 ⟨rfl, hbl⟩
 replace RES := hmB RES hbl
 replace HW := hmW HW hbl; clear hbl
 have d0 := RES.out.c0
 have f0 := RES.out.frozen 0
 have d1 := RES.out.c1
 have f1 := RES.out.frozen 1
 go_wp2
 exact bodyPost_ret (results_cell_row rfl _ _ (w.heap.size) 132 _ (0, 0) _ rfl (RES.out.put2 _ _) Tryz.underlying132 rfl (by kernel_rfl)) rfl ⟨(frac_z e0 HM.out.1 HM.out.2.1 HM.out.2.2.1 HP.out), (bel_set2 (g := w.heap.size) HW.out (Nat.le_refl _) _ _)⟩

theorem refFrac_n {sz : Int} {p q t : Nat} (hf : Fm sz p q t) (b : Nat) (w : World) (hb : b ≤ (t + q + 2) * 2 ^ (p - 1)) (e0 : ¬ b / 2 ^ (p - 1) = 0) (e1 : b / 2 ^ (p - 1) - 1 < q) :
 Calls Tryz.prog 116 #[.int .u64 (b : Int), .int .i64 sz] w (RetF3 (FN p q b) (FD p q b) w) := by
 obtain ⟨op1, op2, oq0, oq, ot, os1, os2⟩ := hf.ok
 have HF := Lib.hid hf; clear hf
 obtain ⟨H, hH⟩ : ∃ H, H = 2 ^ (p - 1) := ⟨_, rfl⟩
 have hH1 : H ≤ 4503599627370496 := by rw [hH]; exact Nat.pow_le_pow_right (n := 2) (j := 52) (by decide) (by omega)
 have hH0 : 0 < H := by rw [hH]; exact Nat.pow_pos (by decide)
 rw [← hH] at hb e0 e1
 obtain ⟨m, hm⟩ : ∃ m, m = b % H := ⟨_, rfl⟩
 obtain ⟨x, hx⟩ : ∃ x, x = b / H := ⟨_, rfl⟩
 have hm1 : m < H := by rw [hm]; exact Nat.mod_lt _ hH0
 have hx1 : x ≤ t + q + 2 := by rw [hx]; exact Nat.div_le_of_le_mul (by rw [Nat.mul_comm]; exact hb)
 have s0 : IntKind.i64.wrap ((p : Int) - 1) = ((p - 1 : Nat) : Int) := by rw [IntKind.wrap_i64]; omega
 have s1 : (b : Int) % (H : Int) = (m : Int) := by rw [hm]; exact (Int.natCast_emod b H).symm
 have s2 : (b : Int) / (H : Int) = (x : Int) := by rw [hx]; exact (Int.natCast_ediv b H).symm
 have s3 : IntKind.i64.wrap (x : Int) = (x : Int) := by rw [IntKind.wrap_i64]; omega
 have s9 : IntKind.u64.wrap (x : Int) = (x : Int) := by rw [IntKind.wrap_u64]; omega
 have z1 : ¬ (H : Int) = 0 := by omega
 have z2 : ((H : Int) == 0) = false := by simpa using z1
 rw [← hx] at e0 e1
 have e9 : ((x : Int) == 0) = false := by simp [e0]
 have e8 : ¬ (x : Int) = 0 := by omega
 obtain ⟨M, hM9⟩ : ∃ M, M = m + H := ⟨_, rfl⟩
 have s4 : IntKind.u64.wrap ((m : Int) + (H : Int)) = (M : Int) := by rw [IntKind.wrap_u64]; omega
 have HM9 := Lib.hid (And.intro hM9 (show M ≤ 9007199254740992 by omega)); clear hM9
 obtain ⟨y, hy⟩ : ∃ y : Nat, x = y + 1 := ⟨x - 1, by omega⟩
 have s5 : IntKind.i64.wrap ((x : Int) - 1) = (y : Int) := by rw [IntKind.wrap_i64]; omega
 obtain ⟨z, hz⟩ : ∃ z : Nat, q = y + z := ⟨q - y, by omega⟩
 have hz0 : 0 < z := by omega
 have s6 : IntKind.i64.wrap ((y : Int) - (q : Int)) = -(z : Int) := by rw [IntKind.wrap_i64]; omega
 have s8 : IntKind.i64.wrap (z : Int) = (z : Int) := by rw [IntKind.wrap_i64]; omega
 have c1 : (-(z : Int) < 0) := by omega
 have HYZ := Lib.hid (And.intro hy hz); clear hy hz
 have HM := Lib.hid (And.intro hm (And.intro hx (And.intro hH hm1))); clear hm hx hH hm1
 have HO := Lib.hid (And.intro op1 (And.intro op2 (And.intro oq0 (And.intro oq (And.intro ot (And.intro hH1 hx1)))))); clear op1 op2 oq0 oq ot os1 os2 hH1 hx1 hb
 obtain ⟨wa, hwa⟩ : ∃ wa, wa = w.alloc (.cells #[.string ⟨#[]⟩, .string ⟨#[]⟩] 132) := ⟨_, rfl⟩
 obtain ⟨hbl, RES⟩ := sal1 hwa
 have HW := Lib.hid hbl; clear hbl
 go_enter Tryz.func116, Tryz.ntmps116
 go_wp2_with fail
 rw [← hwa]
 clear hwa
 refine (refMant_any HF.out _).mono ?_
 rintro e w1 ⟨rfl, hbl⟩
 replace RES := hmB RES hbl
 replace HW := hmW HW hbl; clear hbl
 go_wp2_with fail
 refine (refPow_any (p - 1) _ (by have := HO.out.2.1; omega)).mono ?_
 rintro e w2 ⟨rfl, hbl⟩
 replace RES := hmB RES hbl
 replace HW := hmW HW hbl; clear hbl
 rw [← HM.out.2.2.1]
 go_wp2_with fail
 refine (refLeast_any HF.out _).mono ?_
 rintro e w3 ⟨rfl, hbl⟩
 replace RES := hmB RES hbl
 replace HW := hmW HW hbl; clear hbl
 go_wp2_with fail
 refine (refTxt_any M _ (by have := HM9.out.2; omega)).mono ?_
 rintro e w4 ⟨rfl, hbl⟩
 replace RES := hmB RES hbl
 replace HW := hmW HW hbl; clear hbl
 obtain ⟨P, hP⟩ : ∃ P, 2 ^ z = P := ⟨_, rfl⟩
 have HP := Lib.hid hP; clear hP
 go_wp2_with fail
 refine (pow3_is z P _ HP.out (by have := HO.out.2.2.2.1; have := HYZ.out.2; omega)).mono ?_
 rintro e w5 ⟨rfl, hbl⟩
 replace RES := hmB RES hbl
 replace HW := hmW HW hbl; clear hbl
 have d0 := RES.out.c0
 have f0 := RES.out.frozen 0
 have d1 := RES.out.c1
 have f1 := RES.out.frozen 1
 go_wp2
 exact bodyPost_ret (results_cell_row rfl _ _ (w.heap.size) 132 _ (0, 0) _ rfl (RES.out.put2 _ _) Tryz.underlying132 rfl (by kernel_rfl)) rfl ⟨(frac_n HM9.out.1 HYZ.out.1 HYZ.out.2 HM.out.1 HM.out.2.1 HM.out.2.2.1 HP.out), (bel_set2 (g := w.heap.size) HW.out (Nat.le_refl _) _ _)⟩

theorem refFrac_p {sz : Int} {p q t : Nat} (hf : Fm sz p q t) (b : Nat) (w : World) (hb : b ≤ (t + q + 2) * 2 ^ (p - 1)) (e0 : ¬ b / 2 ^ (p - 1) = 0) (e1 : ¬ b / 2 ^ (p - 1) - 1 < q) :
 Calls Tryz.prog 116 #[.int .u64 (b : Int), .int .i64 sz] w (RetF3 (FN p q b) (FD p q b) w) := by
 obtain ⟨op1, op2, oq0, oq, ot, os1, os2⟩ := hf.ok
 have HF := Lib.hid hf; clear hf
 obtain ⟨H, hH⟩ : ∃ H, H = 2 ^ (p - 1) := ⟨_, rfl⟩
 have hH1 : H ≤ 4503599627370496 := by rw [hH]; exact Nat.pow_le_pow_right (n := 2) (j := 52) (by decide) (by omega)
 have hH0 : 0 < H := by rw [hH]; exact Nat.pow_pos (by decide)
 rw [← hH] at hb e0 e1
 obtain ⟨m, hm⟩ : ∃ m, m = b % H := ⟨_, rfl⟩
 obtain ⟨x, hx⟩ : ∃ x, x = b / H := ⟨_, rfl⟩
 have hm1 : m < H := by rw [hm]; exact Nat.mod_lt _ hH0
 have hx1 : x ≤ t + q + 2 := by rw [hx]; exact Nat.div_le_of_le_mul (by rw [Nat.mul_comm]; exact hb)
 have s0 : IntKind.i64.wrap ((p : Int) - 1) = ((p - 1 : Nat) : Int) := by rw [IntKind.wrap_i64]; omega
 have s1 : (b : Int) % (H : Int) = (m : Int) := by rw [hm]; exact (Int.natCast_emod b H).symm
 have s2 : (b : Int) / (H : Int) = (x : Int) := by rw [hx]; exact (Int.natCast_ediv b H).symm
 have s3 : IntKind.i64.wrap (x : Int) = (x : Int) := by rw [IntKind.wrap_i64]; omega
 have s9 : IntKind.u64.wrap (x : Int) = (x : Int) := by rw [IntKind.wrap_u64]; omega
 have z1 : ¬ (H : Int) = 0 := by omega
 have z2 : ((H : Int) == 0) = false := by simpa using z1
 rw [← hx] at e0 e1
 have e9 : ((x : Int) == 0) = false := by simp [e0]
 have e8 : ¬ (x : Int) = 0 := by omega
 obtain ⟨M, hM9⟩ : ∃ M, M = m + H := ⟨_, rfl⟩
 have s4 : IntKind.u64.wrap ((m : Int) + (H : Int)) = (M : Int) := by rw [IntKind.wrap_u64]; omega
 have HM9 := Lib.hid (And.intro hM9 (show M ≤ 9007199254740992 by omega)); clear hM9
 obtain ⟨y, hy⟩ : ∃ y : Nat, x = y + 1 := ⟨x - 1, by omega⟩
 have s5 : IntKind.i64.wrap ((x : Int) - 1) = (y : Int) := by rw [IntKind.wrap_i64]; omega
 obtain ⟨z, hz⟩ : ∃ z : Nat, y = q + z := ⟨y - q, by omega⟩
 have s6 : IntKind.i64.wrap ((y : Int) - (q : Int)) = (z : Int) := by rw [IntKind.wrap_i64]; omega
 have c1 : ¬ ((z : Int) < 0) := by omega
 have HYZ := Lib.hid (And.intro hy hz); clear hy hz
 have HM := Lib.hid (And.intro hm (And.intro hx (And.intro hH hm1))); clear hm hx hH hm1
 have HO := Lib.hid (And.intro op1 (And.intro op2 (And.intro oq0 (And.intro oq (And.intro ot (And.intro hH1 hx1)))))); clear op1 op2 oq0 oq ot os1 os2 hH1 hx1 hb
 obtain ⟨wa, hwa⟩ : ∃ wa, wa = w.alloc (.cells #[.string ⟨#[]⟩, .string ⟨#[]⟩] 132) := ⟨_, rfl⟩
 obtain ⟨hbl, RES⟩ := sal1 hwa
 have HW := Lib.hid hbl; clear hbl
 go_enter Tryz.func116, Tryz.ntmps116
 go_wp2_with fail
 rw [← hwa]
 clear hwa
 refine (refMant_any HF.out _).mono ?_
 rintro e w1 ⟨rfl, hbl⟩
 replace RES := hmB RES hbl
 replace HW := hmW HW hbl; clear hbl
 go_wp2_with fail
 refine (refPow_any (p - 1) _ (by have := HO.out.2.1; omega)).mono ?_
 rintro e w2 ⟨rfl, hbl⟩
 replace RES := hmB RES hbl
 replace HW := hmW HW hbl; clear hbl
 rw [← HM.out.2.2.1]
 go_wp2_with fail
 refine (refLeast_any HF.out _).mono ?_
 rintro e w3 ⟨rfl, hbl⟩
 replace RES := hmB RES hbl
 replace HW := hmW HW hbl; clear hbl
 go_wp2_with fail
 refine (refTxt_any M _ (by have := HM9.out.2; omega)).mono ?_
 rintro e w4 ⟨rfl, hbl⟩
 replace RES := hmB RES hbl
 replace HW := hmW HW hbl; clear hbl
 obtain ⟨P, hP⟩ : ∃ P, 2 ^ z = P := ⟨_, rfl⟩
 have HP := Lib.hid hP; clear hP
 go_wp2_with fail
 refine (pow3_is z P _ HP.out (by have := HO.out.2.2.2.2; have := HYZ.out.1; have := HYZ.out.2; omega)).mono ?_
 rintro e w5 ⟨rfl, hbl⟩
 replace RES := hmB RES hbl
 replace HW := hmW HW hbl; clear hbl
 go_wp2_with fail
 refine (refMul_any M P _ (by have := decL_len_le (n := M) (k := 20) (by have := HM9.out.2; omega) (by omega); omega) (by have h := decL_pow (k := z); rw [HP.out] at h; have := HO.out.2.2.2.2; have := HYZ.out.1; have := HYZ.out.2; omega)).mono ?_
 rintro e w6 ⟨rfl, hbl⟩
 replace RES := hmB RES hbl
 replace HW := hmW HW hbl; clear hbl
 have d0 := RES.out.c0
 have f0 := RES.out.frozen 0
 have d1 := RES.out.c1
 have f1 := RES.out.frozen 1
 go_wp2
 exact bodyPost_ret (results_cell_row rfl _ _ (w.heap.size) 132 _ (0, 0) _ rfl (RES.out.put2 _ _) Tryz.underlying132 rfl (by kernel_rfl)) rfl ⟨(frac_p HM9.out.1 HYZ.out.1 HYZ.out.2 HM.out.1 HM.out.2.1 HM.out.2.2.1 HP.out), (bel_set2 (g := w.heap.size) HW.out (Nat.le_refl _) _ _)⟩

theorem refFrac_any {sz : Int} {p q t : Nat} (hf : Fm sz p q t) (b : Nat) (w : World) (hb : b ≤ (t + q + 2) * 2 ^ (p - 1)) : Calls Tryz.prog 116 #[.int .u64 (b : Int), .int .i64 sz] w (RetF3 (FN p q b) (FD p q b) w) := by
 by_cases e0 : b / 2 ^ (p - 1) = 0
 · exact refFrac_z hf b w hb e0
 · by_cases e1 : b / 2 ^ (p - 1) - 1 < q
   · exact refFrac_n hf b w hb e0 e1
   · exact refFrac_p hf b w hb e0 e1
theorem refCmp3_any (n d n' d' : Nat) (w : World) (h1 : (decL n).length ≤ 1000) (h2 : (decL d).length ≤ 1000) (h3 : (decL n').length ≤ 1000) (h4 : (decL d').length ≤ 1000) :
 Calls Tryz.prog 142 #[.agg #[.string (dec n), .string (dec d)], .agg #[.string (dec n'), .string (dec d')]] w (RetIB (cmpI (((n * d') : Nat) : Int) (((n' * d) : Nat) : Int)) w) := by
 have HL := Lib.hid (And.intro h1 (And.intro h2 (And.intro h3 h4))); clear h1 h2 h3 h4
 obtain ⟨wa, hwa⟩ : ∃ wa, wa = (w.alloc (.cells #[.string (dec n), .string (dec d)] 132)).alloc (.cells #[.string (dec n'), .string (dec d')] 132) := ⟨_, rfl⟩
 obtain ⟨hbl, CA, CB⟩ := sal2 hwa
 have HW := Lib.hid hbl; clear hbl
 go_enter Tryz.func142, Tryz.ntmps142
 go_wp2_with fail
 rw [← hwa]
 clear hwa
 refine wp_region_typed 12 (TOf [VIs (.pointer (some ⟨w.heap.size, 0, none⟩)),
  VIs (.string (dec n)),
  VIs (.pointer (some ⟨w.heap.size + 1, 1, none⟩)),
  VIs (.string (dec d')),
  VIs (.string (dec (n * d'))),
  VIs (.pointer (some ⟨w.heap.size + 1, 0, none⟩)),
  VIs (.string (dec n')),
  VIs (.pointer (some ⟨w.heap.size, 1, none⟩)),
  VIs (.string (dec d)),
  VIs (.string (dec (n' * d))),
  VIs (.int .i64 (cmpI (((n * d') : Nat) : Int) (((n' * d) : Nat) : Int))),
  VIs (.int .i64 (cmpI (((n * d') : Nat) : Int) (((n' * d) : Nat) : Int)))]) (by kernel_rfl) (by kernel_rfl) (by kernel_rfl) (LiftAll.at_ (.cons (VIs.lift _) (.cons (VIs.lift _) (.cons (VIs.lift _) (.cons (VIs.lift _) (.cons (VIs.lift _) (.cons (VIs.lift _) (.cons (VIs.lift _) (.cons (VIs.lift _) (.cons (VIs.lift _) (.cons (VIs.lift _) (.cons (VIs.lift _) (.cons (VIs.lift _) .nil))))))))))))) (steps_all (steps_cons ?_ (steps_cons ?_ (steps_cons ?_ (steps_cons ?_ (steps_cons ?_ (steps_cons ?_ (steps_cons ?_ (steps_cons ?_ (steps_cons ?_ (steps_cons ?_ (steps_cons ?_ (steps_cons ?_ steps_zero))))))))))))) ?fin
 · intro a0 w9 K9 hF hB hK hC
   have b2 := hF.base (k := 2) (by kernel_rfl) rfl
   clear hF hB hK
   go_simp
   exact hC _ _ (bR _) fun _ _ => rfl
 · intro a0 w9 K9 hF hB hK hC
   have e5 := depV hK 0 rfl rfl rfl rfl
   have x9 := (CA.out.below hB CA.out.lt).c0
   clear hF hB hK
   go_simp
   exact hC _ _ (bR _) fun _ _ => rfl
 · intro a0 w9 K9 hF hB hK hC
   have b3 := hF.base (k := 3) (by kernel_rfl) rfl
   clear hF hB hK
   go_simp
   exact hC _ _ (bR _) fun _ _ => rfl
 · intro a0 w9 K9 hF hB hK hC
   have e7 := depV hK 0 rfl rfl rfl rfl
   have x9 := (CB.out.below hB CB.out.lt).c1
   clear hF hB hK
   go_simp
   exact hC _ _ (bR _) fun _ _ => rfl
 · intro a0 w9 K9 hF hB hK hC
   have e6 := depV hK 0 rfl rfl rfl rfl
   have e8 := depV hK 1 rfl rfl rfl rfl
   have HB9 := Lib.hid hB
   clear hF hB hK
   go_simp
   refine (refMul_any n d' _ HL.out.1 HL.out.2.2.2).mono ?_
   rintro e w7 ⟨rfl, hbl⟩
   exact hC _ _ hbl fun _ _ => rfl
 · intro a0 w9 K9 hF hB hK hC
   have b3 := hF.base (k := 3) (by kernel_rfl) rfl
   clear hF hB hK
   go_simp
   exact hC _ _ (bR _) fun _ _ => rfl
 · intro a0 w9 K9 hF hB hK hC
   have e10 := depV hK 0 rfl rfl rfl rfl
   have x9 := (CB.out.below hB CB.out.lt).c0
   clear hF hB hK
   go_simp
   exact hC _ _ (bR _) fun _ _ => rfl
 · intro a0 w9 K9 hF hB hK hC
   have b2 := hF.base (k := 2) (by kernel_rfl) rfl
   clear hF hB hK
   go_simp
   exact hC _ _ (bR _) fun _ _ => rfl
 · intro a0 w9 K9 hF hB hK hC
   have e12 := depV hK 0 rfl rfl rfl rfl
   have x9 := (CA.out.below hB CA.out.lt).c1
   clear hF hB hK
   go_simp
   exact hC _ _ (bR _) fun _ _ => rfl
 · intro a0 w9 K9 hF hB hK hC
   have e11 := depV hK 0 rfl rfl rfl rfl
   have e13 := depV hK 1 rfl rfl rfl rfl
   have HB9 := Lib.hid hB
   clear hF hB hK
   go_simp
   refine (refMul_any n' d _ HL.out.2.2.1 HL.out.2.1).mono ?_
   rintro e w7 ⟨rfl, hbl⟩
   exact hC _ _ hbl fun _ _ => rfl
 · intro a0 w9 K9 hF hB hK hC
   have e9 := depV hK 0 rfl rfl rfl rfl
   have e14 := depV hK 1 rfl rfl rfl rfl
   have HB9 := Lib.hid hB
   clear hF hB hK
   go_simp
   refine (refCmp_bb (n * d') (n' * d) _).mono ?_
   rintro e w7 ⟨rfl, hbl⟩
   exact hC _ _ hbl fun _ _ => rfl
 · intro a0 w9 K9 hF hB hK hC
   have e15 := depV hK 0 rfl rfl rfl rfl
   clear hF hB hK
   go_simp
   exact hC _ _ (bR _) fun _ _ => rfl
 case fin =>
  intro a0 w9 hF hB hK
  have b2 := hF.base (k := 2) (by kernel_rfl) rfl
  have b3 := hF.base (k := 3) (by kernel_rfl) rfl
  have hsz := hF.size
  have hdf := hF.defers
  clear hF
  obtain ⟨v4, e4, z4⟩ := known hK 11 (k := 4) (by decide) rfl
  have z4 : v4 = .int .i64 (cmpI (((n * d') : Nat) : Int) (((n' * d) : Nat) : Int)) := z4
  subst z4
  clear hK
  obtain ⟨⟨l0⟩, df⟩ := a0
  have hs0 : l0.length = 16 := hsz
  clear hsz
  replace hdf : df = _ := hdf
  subst hdf
  obtain ⟨u, rfl⟩ := lits_16 hs0
  clear hs0
  have q2 : u 2 = _ := Option.some.inj b2
  clear b2
  have q3 : u 3 = _ := Option.some.inj b3
  clear b3
  have q4 : u 4 = _ := Option.some.inj e4
  clear e4
  rw [q2, q3, q4]
  clear q2 q3 q4
  have hbl := hB; clear hB
  replace CA := hmB CA hbl
  replace CB := hmB CB hbl
  replace HW := hmW HW hbl; clear hbl
  refine wpList_nil ?_
  go_wp2
  go_ret
  exact ⟨rfl, HW.out⟩

theorem refLess3_any (n d n' d' : Nat) (w : World) (h1 : (decL n).length ≤ 1000) (h2 : (decL d).length ≤ 1000) (h3 : (decL n').length ≤ 1000) (h4 : (decL d').length ≤ 1000) (hle : (n' * d) ≤ (n * d')) :
 Calls Tryz.prog 143 #[.agg #[.string (dec n), .string (dec d)], .agg #[.string (dec n'), .string (dec d')]] w (RetF3 ((n * d') - (n' * d)) (d * d') w) := by
 have HL := Lib.hid (And.intro h1 (And.intro h2 (And.intro h3 h4))); clear h1 h2 h3 h4
 have LE := Lib.hid hle; clear hle
 obtain ⟨wa, hwa⟩ : ∃ wa, wa = ((w.alloc (.cells #[.string (dec n), .string (dec d)] 132)).alloc (.cells #[.string (dec n'), .string (dec d')] 132)).alloc (.cells #[.string ⟨#[]⟩, .string ⟨#[]⟩] 132) := ⟨_, rfl⟩
 obtain ⟨hbl, CA, CB, RES⟩ := sal3 hwa
 have HW := Lib.hid hbl; clear hbl
 go_enter Tryz.func143, Tryz.ntmps143
 go_wp2_with fail
 rw [← hwa]
 clear hwa
 refine wp_region_typed 17 (TOf [VIs (.pointer (some ⟨w.heap.size, 0, none⟩)),
  VIs (.string (dec n)),
  VIs (.pointer (some ⟨w.heap.size + 1, 1, none⟩)),
  VIs (.string (dec d')),
  VIs (.string (dec (n * d'))),
  VIs (.pointer (some ⟨w.heap.size + 1, 0, none⟩)),
  VIs (.string (dec n')),
  VIs (.pointer (some ⟨w.heap.size, 1, none⟩)),
  VIs (.string (dec d)),
  VIs (.string (dec (n' * d))),
  VIs (.string (dec ((n * d') - (n' * d)))),
  VIs (.pointer (some ⟨w.heap.size, 1, none⟩)),
  VIs (.string (dec d)),
  VIs (.pointer (some ⟨w.heap.size + 1, 1, none⟩)),
  VIs (.string (dec d')),
  VIs (.string (dec (d * d'))),
  VIs (.agg #[.string (dec ((n * d') - (n' * d))), .string (dec (d * d'))])]) (by kernel_rfl) (by kernel_rfl) (by kernel_rfl) (LiftAll.at_ (.cons (VIs.lift _) (.cons (VIs.lift _) (.cons (VIs.lift _) (.cons (VIs.lift _) (.cons (VIs.lift _) (.cons (VIs.lift _) (.cons (VIs.lift _) (.cons (VIs.lift _) (.cons (VIs.lift _) (.cons (VIs.lift _) (.cons (VIs.lift _) (.cons (VIs.lift _) (.cons (VIs.lift _) (.cons (VIs.lift _) (.cons (VIs.lift _) (.cons (VIs.lift _) (.cons (VIs.lift _) .nil)))))))))))))))))) (steps_all (steps_cons ?_ (steps_cons ?_ (steps_cons ?_ (steps_cons ?_ (steps_cons ?_ (steps_cons ?_ (steps_cons ?_ (steps_cons ?_ (steps_cons ?_ (steps_cons ?_ (steps_cons ?_ (steps_cons ?_ (steps_cons ?_ (steps_cons ?_ (steps_cons ?_ (steps_cons ?_ (steps_cons ?_ steps_zero)))))))))))))))))) ?fin
 · intro a0 w9 K9 hF hB hK hC
   have b2 := hF.base (k := 2) (by kernel_rfl) rfl
   clear hF hB hK
   go_simp
   exact hC _ _ (bR _) fun _ _ => rfl
 · intro a0 w9 K9 hF hB hK hC
   have e5 := depV hK 0 rfl rfl rfl rfl
   have x9 := (CA.out.below hB CA.out.lt).c0
   clear hF hB hK
   go_simp
   exact hC _ _ (bR _) fun _ _ => rfl
 · intro a0 w9 K9 hF hB hK hC
   have b3 := hF.base (k := 3) (by kernel_rfl) rfl
   clear hF hB hK
   go_simp
   exact hC _ _ (bR _) fun _ _ => rfl
 · intro a0 w9 K9 hF hB hK hC
   have e7 := depV hK 0 rfl rfl rfl rfl
   have x9 := (CB.out.below hB CB.out.lt).c1
   clear hF hB hK
   go_simp
   exact hC _ _ (bR _) fun _ _ => rfl
 · intro a0 w9 K9 hF hB hK hC
   have e6 := depV hK 0 rfl rfl rfl rfl
   have e8 := depV hK 1 rfl rfl rfl rfl
   have HB9 := Lib.hid hB
   clear hF hB hK
   go_simp
   refine (refMul_any n d' _ HL.out.1 HL.out.2.2.2).mono ?_
   rintro e w7 ⟨rfl, hbl⟩
   exact hC _ _ hbl fun _ _ => rfl
 · intro a0 w9 K9 hF hB hK hC
   have b3 := hF.base (k := 3) (by kernel_rfl) rfl
   clear hF hB hK
   go_simp
   exact hC _ _ (bR _) fun _ _ => rfl
 · intro a0 w9 K9 hF hB hK hC
   have e10 := depV hK 0 rfl rfl rfl rfl
   have x9 := (CB.out.below hB CB.out.lt).c0
   clear hF hB hK
   go_simp
   exact hC _ _ (bR _) fun _ _ => rfl
 · intro a0 w9 K9 hF hB hK hC
   have b2 := hF.base (k := 2) (by kernel_rfl) rfl
   clear hF hB hK
   go_simp
   exact hC _ _ (bR _) fun _ _ => rfl
 · intro a0 w9 K9 hF hB hK hC
   have e12 := depV hK 0 rfl rfl rfl rfl
   have x9 := (CA.out.below hB CA.out.lt).c1
   clear hF hB hK
   go_simp
   exact hC _ _ (bR _) fun _ _ => rfl
 · intro a0 w9 K9 hF hB hK hC
   have e11 := depV hK 0 rfl rfl rfl rfl
   have e13 := depV hK 1 rfl rfl rfl rfl
   have HB9 := Lib.hid hB
   clear hF hB hK
   go_simp
   refine (refMul_any n' d _ HL.out.2.2.1 HL.out.2.1).mono ?_
   rintro e w7 ⟨rfl, hbl⟩
   exact hC _ _ hbl fun _ _ => rfl
 · intro a0 w9 K9 hF hB hK hC
   have e9 := depV hK 0 rfl rfl rfl rfl
   have e14 := depV hK 1 rfl rfl rfl rfl
   have HB9 := Lib.hid hB
   clear hF hB hK
   go_simp
   refine (refSub_any (n * d') (n' * d) _ (mul_len HL.out.1 HL.out.2.2.2) (mul_len HL.out.2.2.1 HL.out.2.1) LE.out).mono ?_
   rintro e w7 ⟨rfl, hbl⟩
   exact hC _ _ hbl fun _ _ => rfl
 · intro a0 w9 K9 hF hB hK hC
   have b2 := hF.base (k := 2) (by kernel_rfl) rfl
   clear hF hB hK
   go_simp
   exact hC _ _ (bR _) fun _ _ => rfl
 · intro a0 w9 K9 hF hB hK hC
   have e16 := depV hK 0 rfl rfl rfl rfl
   have x9 := (CA.out.below hB CA.out.lt).c1
   clear hF hB hK
   go_simp
   exact hC _ _ (bR _) fun _ _ => rfl
 · intro a0 w9 K9 hF hB hK hC
   have b3 := hF.base (k := 3) (by kernel_rfl) rfl
   clear hF hB hK
   go_simp
   exact hC _ _ (bR _) fun _ _ => rfl
 · intro a0 w9 K9 hF hB hK hC
   have e18 := depV hK 0 rfl rfl rfl rfl
   have x9 := (CB.out.below hB CB.out.lt).c1
   clear hF hB hK
   go_simp
   exact hC _ _ (bR _) fun _ _ => rfl
 · intro a0 w9 K9 hF hB hK hC
   have e17 := depV hK 0 rfl rfl rfl rfl
   have e19 := depV hK 1 rfl rfl rfl rfl
   have HB9 := Lib.hid hB
   clear hF hB hK
   go_simp
   refine (refMul_any d d' _ HL.out.2.1 HL.out.2.2.2).mono ?_
   rintro e w7 ⟨rfl, hbl⟩
   exact hC _ _ hbl fun _ _ => rfl
 · intro a0 w9 K9 hF hB hK hC
   have e15 := depV hK 0 rfl rfl rfl rfl
   have e20 := depV hK 1 rfl rfl rfl rfl
   have HB9 := Lib.hid hB
   clear hF hB hK
   go_simp
   exact hC _ _ (bR _) fun _ _ => rfl
 case fin =>
  intro a0 w9 hF hB hK
  have b2 := hF.base (k := 2) (by kernel_rfl) rfl
  have b3 := hF.base (k := 3) (by kernel_rfl) rfl
  have b4 := hF.base (k := 4) (by kernel_rfl) rfl
  have hsz := hF.size
  have hdf := hF.defers
  clear hF
  obtain ⟨v21, e21, z21⟩ := known hK 16 (k := 21) (by decide) rfl
  have z21 : v21 = .agg #[.string (dec ((n * d') - (n' * d))), .string (dec (d * d'))] := z21
  subst z21
  clear hK
  obtain ⟨⟨l0⟩, df⟩ := a0
  have hs0 : l0.length = 22 := hsz
  clear hsz
  replace hdf : df = _ := hdf
  subst hdf
  obtain ⟨u, rfl⟩ := lits_22 hs0
  clear hs0
  have q2 : u 2 = _ := Option.some.inj b2
  clear b2
  have q3 : u 3 = _ := Option.some.inj b3
  clear b3
  have q4 : u 4 = _ := Option.some.inj b4
  clear b4
  have q21 : u 21 = _ := Option.some.inj e21
  clear e21
  rw [q2, q3, q4, q21]
  clear q2 q3 q4 q21
  have hbl := hB; clear hB
  replace CA := hmB CA hbl
  replace CB := hmB CB hbl
  replace RES := hmB RES hbl
  replace HW := hmW HW hbl; clear hbl
  simp only [List.drop_succ_cons, List.drop_zero]
  have d0 := RES.out.c0
  have f0 := RES.out.frozen 0
  have d1 := RES.out.c1
  have f1 := RES.out.frozen 1
  go_wp2
  exact bodyPost_ret (results_cell_row rfl _ _ (w.heap.size + 2) 132 _ (0, 0) _ rfl (RES.out.put2 _ _) Tryz.underlying132 rfl (by kernel_rfl)) rfl ⟨rfl, (bel_set2 (g := w.heap.size + 2) HW.out (by omega) _ _)⟩
end
end
end Go.Proofs.YtmbbdjpnecjleaaGreat
