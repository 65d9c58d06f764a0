/-
 Parts: LBase RoE RoValue.
-/
import Derived.Test.YtmbbdjpnecjleaaGreatH17
import Derived.Test.YtmbbdjpnecjleaaGreatH12
import Derived.Deep.Cut
import Derived.Test.YtmbbdjpnecjleaaGreatH11
import Derived.Test.YtmbbdjpnecjleaaGreatH16
import Derived.Test.YtmbbdjpnecjleaaGreatH15
import Derived.Test.YtmbbdjpnecjleaaGreatH10
import Derived.Deep.CutRange
import Derived.Deep.CutBlock
namespace Go.Proofs.YtmbbdjpnecjleaaGreat
section
set_option maxRecDepth 100000
set_option maxHeartbeats 1000000
section
open Go.RowKit

theorem refIs_true (q : Q) (k : Bool) (A B : Option Addr) (c d : Nat) (w : World) (h : RdL w A (limbs q.n)) (h' : RdL w B (limbs q.d)) (hn : q.n < Top) (hd : q.d < Top) (hq : QR q) :
 Calls Tryz.prog 72 #[.agg #[.bool q.s, .slice A (limbs q.n).length c, .slice B (limbs q.d).length d], .agg #[.bool q.s, .string (dec q.n), .string (dec q.d), .bool k]] w (RetBB true w) := by
 have LA := Lib.hid (And.intro hn (And.intro hd hq)); clear hn hd hq
 have RA := Lib.hid h; clear h
 have RB := Lib.hid h'; clear h'
 obtain ⟨wa, hwa⟩ : ∃ wa, wa = (w.alloc (.cells #[.bool q.s, .slice A (limbs q.n).length c, .slice B (limbs q.d).length d] 25)).alloc (.cells #[.bool q.s, .string (dec q.n), .string (dec q.d), .bool k] 37) := ⟨_, rfl⟩
 obtain ⟨hbl, CX, CF⟩ := sal2 hwa
 replace RA := hmR RA hbl
 replace RB := hmR RB hbl
 have HW := Lib.hid hbl; clear hbl
 go_enter Tryz.func72, Tryz.ntmps72
 go_wp2_with fail
 rw [← hwa]
 clear hwa
 have CX0 := CX.out.c0
 have CX1 := CX.out.c1
 have CX2 := CX.out.c2
 have CF0 := CF.out.c0
 have CF1 := CF.out.c1
 have CF2 := CF.out.c2
 go_region_held3 (fun w' => w'.cell? ⟨w.heap.size, 0, none⟩ = some (.bool q.s) ∧ w'.cell? ⟨w.heap.size, 1, none⟩ = some (.slice A (limbs q.n).length c) ∧ w'.cell? ⟨w.heap.size, 2, none⟩ = some (.slice B (limbs q.d).length d) ∧ w'.cell? ⟨w.heap.size + 1, 0, none⟩ = some (.bool q.s) ∧ w'.cell? ⟨w.heap.size + 1, 1, none⟩ = some (.string (dec q.n)) ∧ w'.cell? ⟨w.heap.size + 1, 2, none⟩ = some (.string (dec q.d)) ∧ Below wa.heap.size wa w')
  (first | exact ⟨CX0, CX1, CX2, CF0, CF1, CF2, (Below.refl _ _).drew⟩ | exact ⟨(CX.out.below hb2 CX.out.lt).cell 0, (CX.out.below hb2 CX.out.lt).cell 1, (CX.out.below hb2 CX.out.lt).cell 2, (CF.out.below hb2 CF.out.lt).cell 0, (CF.out.below hb2 CF.out.lt).cell 1, (CF.out.below hb2 CF.out.lt).cell 2, hb2⟩)
  (first
   | (go_at_call 32; have hH := ‹_ ∧ _ ∧ _ ∧ _ ∧ _ ∧ _ ∧ Below _ _ _›; (with_reducible refine (refRatRight_q q A B c d _ (RA.out.below hH.2.2.2.2.2.2) (RB.out.below hH.2.2.2.2.2.2) LA.out.1 LA.out.2.1 LA.out.2.2).mono ?_); rintro e wr1 ⟨rfl, hbx⟩; have hb2 := bel_trans hH.2.2.2.2.2.2 hbx)
   | (go_at_call 21; have hH := ‹_ ∧ _ ∧ _ ∧ _ ∧ _ ∧ _ ∧ Below _ _ _›; (with_reducible refine (text_num A c q.n _ (RA.out.below hH.2.2.2.2.2.2) LA.out.1).mono ?_); rintro e wr2 ⟨rfl, hbx⟩; have hb2 := bel_trans hH.2.2.2.2.2.2 hbx)
   | (go_at_call 21; have hH := ‹_ ∧ _ ∧ _ ∧ _ ∧ _ ∧ _ ∧ Below _ _ _›; (with_reducible refine (text_num B d q.d _ (RB.out.below hH.2.2.2.2.2.2) LA.out.2.1).mono ?_); rintro e wr3 ⟨rfl, hbx⟩; have hb2 := bel_trans hH.2.2.2.2.2.2 hbx))
 have hH := ‹_ ∧ _ ∧ _ ∧ _ ∧ _ ∧ _ ∧ Below _ _ _›
 have hbl := hH.2.2.2.2.2.2
 replace RA := hmR RA hbl
 replace RB := hmR RB hbl
 replace CX := hmB CX hbl
 replace CF := hmB CF hbl
 replace HW := hmW HW hbl; clear hbl
 clear CX0 CX1 CX2 CF0 CF1 CF2
 have CX0 := CX.out.c0
 have CX1 := CX.out.c1
 have CX2 := CX.out.c2
 have CF0 := CF.out.c0
 have CF1 := CF.out.c1
 have CF2 := CF.out.c2
 go_wp2
 go_ret
 exact ⟨rfl, HW.out⟩

theorem same_none (A B : Option Addr) (c d : Nat) (w : World) : Calls Tryz.prog 19 #[.agg #[.bool false, .slice A 0 c, .slice B 0 d], .agg #[.bool false, .slice none 0 0, .slice none 0 0]] w (RetBB true w) :=
 refSame_any false false A B none none c d 0 0 [] [] [] [] w RdL.nil RdL.nil (by simp) RdL.nil RdL.nil (by simp)
end
section
open Go.RowKit

theorem rd_one {w : World} {g : Nat} {t : TypeId} {k : Nat} (hB : Blk w g t #[.int .u32 (k : Int)]) (hk : limbs k = [k]) : RdL w (some ⟨g, 0, none⟩) (limbs k) := by
 rw [hk]
 intro _
 refine ⟨g, 0, rfl, hB.lt, fun j hj => ?_⟩
 have h0 : j = 0 := by simpa using hj
 subst h0
 exact hB.cell 0
end
section
open Go.RowKit

theorem few_short (xs : List Nat) : (few xs).length ≤ xs.length := by rw [few_len]; omega
theorem like_self (s : Bool) (xs ys : List Nat) : likeB s s xs ys xs ys = true := by simp [likeB]
theorem refSame_ok {b : Bool} (s s' : Bool) (A B A' B' : Option Addr) (c d c' d' : Nat) (xs ys xs' ys' : List Nat) (w : World) (h1 : RdL w A xs) (h2 : RdL w A' xs') (hl1 : xs.length ≤ 18) (h3 : RdL w B ys) (h4 : RdL w B' ys') (hl3 : ys.length ≤ 18) (hb : likeB s s' xs ys xs' ys' = b) :
 Calls Tryz.prog 19 #[.agg #[.bool s, .slice A xs.length c, .slice B ys.length d], .agg #[.bool s', .slice A' xs'.length c', .slice B' ys'.length d']] w (RetBB b w) := by
 rw [← hb]
 exact refSame_any s s' A B A' B' c d c' d' xs ys xs' ys' w h1 h2 hl1 h3 h4 hl3
theorem redQ_fit {s : Bool} {n d : Nat} {q : Q} (hn : n < Top) (hd : d < Top) (hd0 : d ≠ 0) (h : redQ s n d = q) : q.n < Top ∧ q.d < Top ∧ QR q := by
 have h1 := redQ_top s hn hd (small_top (by decide))
 have h2 := redQ_right s n d hd0
 rw [h] at h1 h2
 exact ⟨h1.1, h1.2, h2⟩
end
end
end Go.Proofs.YtmbbdjpnecjleaaGreat
namespace Go.Proofs.YtmbbdjpnecjleaaGreat
section
set_option maxRecDepth 100000
set_option maxHeartbeats 1000000
section
theorem lits_132 {l0 : List Value} (hs0 : l0.length = 132) : ∃ u : Nat → Value, l0 = [u 0, u 1, u 2, u 3, u 4, u 5, u 6, u 7, u 8, u 9, u 10, u 11, u 12, u 13, u 14, u 15, u 16, u 17, u 18, u 19, u 20, u 21, u 22, u 23, u 24, u 25, u 26, u 27, u 28, u 29, u 30, u 31, u 32, u 33, u 34, u 35, u 36, u 37, u 38, u 39, u 40, u 41, u 42, u 43, u 44, u 45, u 46, u 47, u 48, u 49, u 50, u 51, u 52, u 53, u 54, u 55, u 56, u 57, u 58, u 59, u 60, u 61, u 62, u 63, u 64, u 65, u 66, u 67, u 68, u 69, u 70, u 71, u 72, u 73, u 74, u 75, u 76, u 77, u 78, u 79, u 80, u 81, u 82, u 83, u 84, u 85, u 86, u 87, u 88, u 89, u 90, u 91, u 92, u 93, u 94, u 95, u 96, u 97, u 98, u 99, u 100, u 101, u 102, u 103, u 104, u 105, u 106, u 107, u 108, u 109, u 110, u 111, u 112, u 113, u 114, u 115, u 116, u 117, u 118, u 119, u 120, u 121, u 122, u 123, u 124, u 125, u 126, u 127, u 128, u 129, u 130, u 131] := lits_of0 hs0
end
section
open Go.RowKit

theorem RdL.set1 {w : World} {g : Nat} {t : TypeId} {s : Bool} {A B : Option Addr} {m m' c c' : Nat} {E : Option Addr} {xs : List Nat} (hB : Blk w g t #[.bool s, .slice A m c, .slice B m' c']) (h : RdL w E xs) (x : Value) :
 RdL (w.setCell ⟨g, 0, none⟩ x) E xs := by
 intro hx
 obtain ⟨b, off, e, hb, hbg, hc⟩ := RdL.other hB h hx
 refine ⟨b, off, e, by simpa using hb, fun k hk => ?_⟩
 rw [cell_far hbg]
 exact hc k hk
theorem code_zero (p q D : Nat) (hD : 0 < D) : Code p q 0 D 0 true := by
 have h1 := V_succ p 0
 rw [V_zero] at h1
 refine ⟨0, by rw [V_zero]; omega, ?_, ?_, ?_⟩
 · rw [Nat.zero_mul]; exact Nat.mul_pos h1 hD
 · unfold upB
   rw [V_zero, decide_eq_false (show ¬ 0 * D + V p (0 + 1) * D < 2 * (0 * 2 ^ q) by omega), decide_eq_false (show ¬ 0 % 2 = 1 by decide)]
   simp
 · rw [V_zero]; simp
theorem rbits_right (s : Bool) (A B : Option Addr) (c d : Nat) (n e : Nat) (sz : Int) (p q t : Nat) (w : World) (h : RdL w A (limbs n)) (h' : RdL w B (limbs e)) (hc : (limbs n).length ≤ c) (hc' : (limbs e).length ≤ d) (hn : n < Top) (he : e < Top) (hr : QR ⟨s, n, e⟩) (hf : Fm sz p q t) {cc : Nat} {ex : Bool} (hC : Code p q n e cc ex) :
 Calls Tryz.prog 107 #[.agg #[.bool s, .slice A (limbs n).length c, .slice B (limbs e).length d], .int .i64 sz] w (RetCode s sz p q t cc ex w) := by
 have hr2 := (rightB_q (s := s) hn he).2 hr
 by_cases h0 : n = 0
 · subst h0
   have hD : 0 < e := Nat.pos_of_ne_zero hr.den
   obtain ⟨rfl, rfl⟩ := (code_zero p q e hD).uniq hC hD
   refine (rbits_zero s A B c d 0 e sz p q t w h h' hc hc' hn he hr2 hf rfl).mono ?_
   rintro E w' ⟨rfl, hb⟩
   refine RetCode.fit ?_ (by simp) hb
   have : 0 < 2 ^ (p - 1) := Nat.pow_pos (by decide)
   have := Nat.mul_pos (show 0 < t + q + 2 by omega) this
   omega
 · exact rbits_code s A B c d n e sz p q t w h h' hc hc' hn he hr2 hf h0 hC
theorem rbits_over (s : Bool) (A B : Option Addr) (c d : Nat) (n e : Nat) (sz : Int) (p q t : Nat) (w : World) (h : RdL w A (limbs n)) (h' : RdL w B (limbs e)) (hc : (limbs n).length ≤ c) (hc' : (limbs e).length ≤ d) (hn : n < Top) (he : e < Top) (hr : QR ⟨s, n, e⟩) (hf : Fm sz p q t) {cc : Nat} {ex : Bool} (hC : Code p q n e cc ex) (ho : (t + q + 2) * 2 ^ (p - 1) ≤ cc) :
 Calls Tryz.prog 107 #[.agg #[.bool s, .slice A (limbs n).length c, .slice B (limbs e).length d], .int .i64 sz] w (RetBits 0 false 2 w) := by
 refine (rbits_right s A B c d n e sz p q t w h h' hc hc' hn he hr hf hC).mono ?_
 intro E w' h2
 unfold RetCode at h2
 rwa [if_pos ho, if_pos ho, if_pos ho] at h2
def sgn (s : Bool) (sz : Int) (cc : Nat) : Nat := if s = true ∧ cc ≠ 0 then cc + 2 ^ (sz.toNat - 1) else cc
theorem rbits_fit {U : Nat} (s : Bool) (A B : Option Addr) (c d : Nat) (n e : Nat) (sz : Int) (p q t : Nat) (w : World) (h : RdL w A (limbs n)) (h' : RdL w B (limbs e)) (hc : (limbs n).length ≤ c) (hc' : (limbs e).length ≤ d) (hn : n < Top) (he : e < Top) (hr : QR ⟨s, n, e⟩) (hf : Fm sz p q t) {cc : Nat} {ex : Bool} (hC : Code p q n e cc ex) (ho : ¬ (t + q + 2) * 2 ^ (p - 1) ≤ cc) (hU : sgn s sz cc = U) :
 Calls Tryz.prog 107 #[.agg #[.bool s, .slice A (limbs n).length c, .slice B (limbs e).length d], .int .i64 sz] w (RetBits U ex 0 w) := by
 refine (rbits_right s A B c d n e sz p q t w h h' hc hc' hn he hr hf hC).mono ?_
 intro E w' h2
 unfold RetCode at h2
 rw [if_neg ho, if_neg ho, if_neg ho] at h2
 rw [← hU]
 exact h2
theorem Fm.of (sz : Int) : (sz ≠ 32 ∧ sz ≠ 64) ∨ ∃ p q t, Fm sz p q t := by
 by_cases h : sz = 32
 · exact .inr ⟨24, 149, 104, .inl ⟨h, rfl, rfl, rfl⟩⟩
 · by_cases h2 : sz = 64
   · exact .inr ⟨53, 1074, 971, .inr ⟨h2, rfl, rfl, rfl⟩⟩
   · exact .inl ⟨h, h2⟩
end
section
open Go.RowKit

theorem Fm.same {sz : Int} {p q t p' q' t' : Nat} (h : Fm sz p q t) (h' : Fm sz p' q' t') : p = p' ∧ q = q' ∧ t = t' := by
 rcases h with ⟨h1, rfl, rfl, rfl⟩ | ⟨h1, rfl, rfl, rfl⟩ <;> rcases h' with ⟨h2, rfl, rfl, rfl⟩ | ⟨h2, rfl, rfl, rfl⟩ <;> first | exact ⟨rfl, rfl, rfl⟩ | omega
end
end
end Go.Proofs.YtmbbdjpnecjleaaGreat
namespace Go.Proofs.YtmbbdjpnecjleaaGreat
section
set_option maxRecDepth 100000
set_option maxHeartbeats 1000000
open Go.RowKit

def RetVal (s : Bool) (p q b : Nat) (w : World) (E : Ending) (w' : World) : Prop := if Top ≤ LN p q b ∨ Top ≤ LD p q b then RetQE noQ 2 w E w' else RetQE (valQ s p q b) 0 w E w'
theorem RetVal.over {s : Bool} {p q b : Nat} {w : World} {E : Ending} {w' : World} (h : Top ≤ LN p q b ∨ Top ≤ LD p q b) (hr : RetQE noQ 2 w E w') : RetVal s p q b w E w' := by
 unfold RetVal
 rwa [if_pos h]
theorem RetVal.fit {s : Bool} {p q b : Nat} {w : World} {E : Ending} {w' : World} (h : LN p q b < Top) (h' : LD p q b < Top) (hr : RetQE (valQ s p q b) 0 w E w') : RetVal s p q b w E w' := by
 unfold RetVal
 rwa [if_neg (by omega)]
theorem Fm.wide {sz : Int} {p q t z : Nat} (h : Fm sz p q t) (hz : sz = (z : Int) + 1) : ∃ ew, z = p - 1 + ew ∧ sz - p = (ew : Int) ∧ t + q + 2 + 1 = 2 ^ ew ∧ ew ≤ 11 ∧ z ≤ 63 := by
 rcases h with ⟨rfl, rfl, rfl, rfl⟩ | ⟨rfl, rfl, rfl, rfl⟩
 · exact ⟨8, by omega, by omega, by decide, by decide, by omega⟩
 · exact ⟨11, by omega, by omega, by decide, by decide, by omega⟩
theorem parts {b s Z H W : Nat} (hb : b < Z) (hZ : Z = H * W) (hH : 0 < H) : (b + s * Z) / Z = s ∧ (b + s * Z) % H = b % H ∧ (b + s * Z) / H % W = b / H := by
 have hZ0 : 0 < Z := by omega
 refine ⟨by rw [Nat.add_mul_div_right _ _ hZ0, Nat.div_eq_of_lt hb, Nat.zero_add], ?_, ?_⟩
 · rw [hZ, Nat.mul_left_comm, Nat.add_mul_mod_self_left]
 · rw [hZ, Nat.mul_left_comm, Nat.add_mul_div_left _ _ hH, Nat.add_mul_mod_self_right, Nat.mod_eq_of_lt]
   rw [Nat.div_lt_iff_lt_mul hH, Nat.mul_comm, ← hZ]
   exact hb
theorem b_eq (s : Bool) : (((s.toNat : Nat) : Int) == 1) = s := by cases s <;> rfl
structure VlRel (w0 wr : World) (m m' k : Nat) (v : Value) : Prop where
 old : Below w0.heap.size w0 wr
 mul : m' * 2 ^ k = m
 num : RdN wr v m'
 k0 : m' = 0 → k = 0
theorem val_k {m m1 k : Nat} (h : m1 * 2 ^ k = m) (h0 : m1 ≠ 0) (hm : m < 2 ^ 61) : k ≤ 60 := by
 have h1 : 2 ^ k ≤ m := by rw [← h]; exact Nat.le_mul_of_pos_left _ (Nat.pos_of_ne_zero h0)
 have h2 := (Nat.pow_lt_pow_iff_right (show 1 < 2 by decide)).1 (Nat.lt_of_le_of_lt h1 hm)
 omega
theorem val_low {p b x m0 H m y0 : Nat} (hm0 : m0 = b % H) (hx : x = b / H) (hH : H = 2 ^ (p - 1)) (hm : m = mant p b) (hy : y0 = expo p b) (h : x = 0) : m = m0 ∧ y0 = 0 := by
 unfold mant at hm
 unfold expo at hy
 rw [← hH, ← hx, if_pos h] at hm
 rw [← hH, ← hx] at hy
 have h1 := Nat.div_add_mod b H
 rw [← hx, h, Nat.mul_zero] at h1
 omega
theorem val_high {p b x m0 H m y0 : Nat} (hm0 : m0 = b % H) (hx : x = b / H) (hH : H = 2 ^ (p - 1)) (hm : m = mant p b) (hy : y0 = expo p b) (h : x ≠ 0) : m = m0 + H ∧ y0 + 1 = x := by
 unfold mant at hm
 unfold expo at hy
 rw [← hH, ← hx, if_neg h] at hm
 rw [← hH, ← hx] at hy
 omega
theorem make_val {s : Bool} {p q b n d : Nat} (hn : n = LN p q b) (hd : d = LD p q b) (h : b = 0 → s = false) : redQ s n d = valQ s p q b := by
 subst hn hd
 exact redQ_L h
theorem of_one (w : World) : Calls Tryz.prog 105 #[.int .u64 1] w (RetN 1 w) := of_any 1 w (by decide)
theorem shift_fit (A : Option Addr) (cap a m : Nat) (w : World) (h : RdL w A (limbs a)) (ha : a < Top) {X : Nat} (hX : a * 2 ^ m = X) (hf : X < Top) :
 Calls Tryz.prog 86 #[.slice A (limbs a).length cap, .int .i64 m] w (RetNE X 0 w) := by
 have h1 := shift_up A cap a m w h ha
 rwa [hX, (fit_small hf).1, (fit_small hf).2] at h1
theorem shift_ovr (A : Option Addr) (cap a m : Nat) (w : World) (h : RdL w A (limbs a)) (ha : a < Top) {X : Nat} (hX : a * 2 ^ m = X) (hf : ¬ X < Top) :
 Calls Tryz.prog 86 #[.slice A (limbs a).length cap, .int .i64 m] w (RetNE 0 2 w) := by
 have h1 := shift_up A cap a m w h ha
 rwa [hX, (fit_over hf).1, (fit_over hf).2] at h1
theorem rvalue_good_f (N : Nat) (sz : Int) (p q t b : Nat) (s : Bool) (w : World) (hf : Fm sz p q t) (z1 : (sz == 32) = false) (hb : ¬ (t + q + 2) * 2 ^ (p - 1) ≤ b) (hs : b = 0 → s = false) (hN : N = b + s.toNat * 2 ^ (sz.toNat - 1)) :
 Calls Tryz.prog 108 #[.int .u64 (N : Int), .int .i64 sz] w (RetVal s p q b w) := by
 obtain ⟨op1, op2, oq0, oq, ot, os1, os2⟩ := hf.ok
 obtain ⟨z, hz3⟩ : ∃ z : Nat, sz = (z : Int) + 1 := ⟨sz.toNat - 1, by omega⟩
 obtain ⟨ew, hw1, hw2, hw3, hw4, hw5⟩ := hf.wide hz3
 have HF := Lib.hid hf; clear hf
 obtain ⟨Z, hZ⟩ : ∃ Z, Z = 2 ^ z := ⟨_, rfl⟩
 obtain ⟨H, hH⟩ : ∃ H, H = 2 ^ (p - 1) := ⟨_, rfl⟩
 obtain ⟨X, hX⟩ : ∃ X, X = 2 ^ ew := ⟨_, rfl⟩
 have hZH : Z = H * X := by rw [hZ, hH, hX, ← Nat.pow_add, hw1]
 have hH0 : 0 < H := by rw [hH]; exact Nat.pow_pos (by decide)
 have hH1 : H ≤ 4503599627370496 := by rw [hH]; exact Nat.pow_le_pow_right (n := 2) (j := 52) (by decide) (by omega)
 have hX1 : X ≤ 2048 := by rw [hX]; exact Nat.pow_le_pow_right (n := 2) (j := 11) (by decide) hw4
 have hZ1 : Z ≤ 9223372036854775808 := by rw [hZ]; exact Nat.pow_le_pow_right (n := 2) (j := 63) (by decide) hw5
 have hz9 : sz.toNat - 1 = z := by omega
 rw [hz9, ← hZ] at hN
 have g1 : IntKind.i64.wrap (sz - 1) = (z : Int) := by rw [IntKind.wrap_i64]; omega
 have g2 : min z 64 = z := by omega
 have g3 : (2 : Int) ^ z = (Z : Int) := by rw [hZ, Int.natCast_pow]; rfl
 have g4 : IntKind.u64.wrap (Z : Int) = (Z : Int) := by rw [IntKind.wrap_u64]; omega
 have hbZ : b < Z := by rw [hZ]; exact fit_code HF.out hz3 hb
 have hNZ : N ≠ Z := by
  cases s
  · rw [hN]; simp; omega
  · have : b ≠ 0 := fun h => by have := hs h; cases this
    rw [hN]; simp; omega
 have hNZ2 : N < 18446744073709551616 := by
  rw [hN]
  cases s
  · simp; omega
  · simp; omega
 have g5 : ((N : Int) == (Z : Int)) = false := by simp only [beq_eq_false_iff_ne, ne_eq]; omega
 have g6 : ¬ (N : Int) = (Z : Int) := by omega
 obtain ⟨r1, r2, r3⟩ := parts (s := s.toNat) hbZ hZH hH0
 rw [← hN] at r1 r2 r3
 obtain ⟨x, hx⟩ : ∃ x, x = b / H := ⟨_, rfl⟩
 obtain ⟨m0, hm0⟩ : ∃ m, m = b % H := ⟨_, rfl⟩
 rw [← hm0] at r2
 rw [← hx] at r3
 have hm1 : m0 < H := by rw [hm0]; exact Nat.mod_lt _ hH0
 have hxX : x < X := by rw [hx, Nat.div_lt_iff_lt_mul hH0, Nat.mul_comm, ← hZH]; exact hbZ
 have g7 : (N : Int) / (Z : Int) = ((s.toNat : Nat) : Int) := by rw [← r1]; exact (Int.natCast_ediv N Z).symm
 have g8 : (((s.toNat : Nat) : Int) == 1) = s := b_eq s
 obtain ⟨J, hJ⟩ : ∃ J, J = N / H := ⟨_, rfl⟩
 rw [← hJ] at r3
 obtain ⟨H1, hH2⟩ : ∃ H1, H1 = H - 1 := ⟨_, rfl⟩
 obtain ⟨K, hK⟩ : ∃ K, K = t + q + 2 := ⟨_, rfl⟩
 have hKX : X = K + 1 := by rw [hK, hX]; omega
 have hJN : J ≤ N := by rw [hJ]; exact Nat.div_le_self _ _
 have k1 : IntKind.i64.wrap ((p : Int) - 1) = ((p - 1 : Nat) : Int) := by rw [IntKind.wrap_i64]; omega
 have k2 : min (p - 1) 64 = p - 1 := by omega
 have k3 : (2 : Int) ^ (p - 1) = (H : Int) := by rw [hH, Int.natCast_pow]; rfl
 have k4 : IntKind.u64.wrap (H : Int) = (H : Int) := by rw [IntKind.wrap_u64]; omega
 have k5 : IntKind.u64.wrap ((H : Int) - 1) = (H1 : Int) := by rw [IntKind.wrap_u64]; omega
 have k6 : bits BinOp.and IntKind.u64 (N : Int) (H1 : Int) = (m0 : Int) := by rw [u64_and_nat _ _ hNZ2 (by omega), hH2, hH, Nat.and_two_pow_sub_one_eq_mod, ← hH, r2]
 have k7 : (N : Int) / (H : Int) = (J : Int) := by rw [hJ]; exact (Int.natCast_ediv N H).symm
 have k8 : IntKind.i64.wrap (sz - (p : Int)) = (ew : Int) := by rw [IntKind.wrap_i64]; omega
 have k9 : min ew 64 = ew := by omega
 have k10 : (2 : Int) ^ ew = (X : Int) := by rw [hX, Int.natCast_pow]; rfl
 have k11 : IntKind.u64.wrap (X : Int) = (X : Int) := by rw [IntKind.wrap_u64]; omega
 have k12 : IntKind.u64.wrap ((X : Int) - 1) = (K : Int) := by rw [IntKind.wrap_u64]; omega
 have k13 : bits BinOp.and IntKind.u64 (J : Int) (K : Int) = (x : Int) := by rw [u64_and_nat _ _ (by omega) (by omega), show K = 2 ^ ew - 1 by omega, Nat.and_two_pow_sub_one_eq_mod, ← hX, r3]
 have k14 : IntKind.i64.wrap (x : Int) = (x : Int) := by rw [IntKind.wrap_i64]; omega
 have k15 : IntKind.i64.wrap (X : Int) = (X : Int) := by rw [IntKind.wrap_i64]; omega
 have k16 : IntKind.i64.wrap ((X : Int) - 1) = (K : Int) := by rw [IntKind.wrap_i64]; omega
 have k17 : IntKind.u64.wrap (x : Int) = (x : Int) := by rw [IntKind.wrap_u64]; omega
 have HX9 := Lib.hid hX1
 have HM := Lib.hid (And.intro hm0 (And.intro hx (And.intro hH (And.intro hm1 (And.intro hxX (And.intro hKX hK)))))); clear hm0 hx hm1 hxX hKX hK
 clear r1 r2 r3 hJ hJN hNZ hNZ2 hbZ hN hZH hH0 hX1 hZ1 hz9 hw1 hw2 hw3 hX hH2 hZ hH hz3
 obtain ⟨wa, hwa⟩ : ∃ wa, wa = w.alloc (.cells #[.bool false, .slice none 0 0, .slice none 0 0] 25) := ⟨_, rfl⟩
 obtain ⟨hbl, RES⟩ := sal1 hwa
 have HW := Lib.hid hbl; clear hbl
 go_enter Tryz.func108, Tryz.ntmps108
 go_wp2_with fail
 rw [← hwa]
 clear hwa
 refine (forms_any _).mono ?_
 rintro e w1 ⟨rfl, hmap, hbl⟩
 replace RES := hmB RES hbl
 replace HW := hmW HW hbl; clear hbl
 have hlk := look_form hmap HF.out
 clear hmap
 go_upto_region 2 with fail
 obtain ⟨wm, hwm⟩ : ∃ wm, wm = w1.alloc (.cells #[.int .i64 (p : Int), .int .i64 (q : Int), .int .i64 (t : Int)] 148) := ⟨_, rfl⟩
 rw [← hwm]
 obtain ⟨hbl, CF⟩ := sal1 hwm
 clear hwm
 replace RES := hmB RES hbl
 replace HW := hmW HW hbl; clear hbl
 have CF0 := CF.out.c0
 have CF1 := CF.out.c1
 have CF2 := CF.out.c2
 go_upto_region 5 with fail
 refine wp_region_typed 22 (TOf [VIs (.int .u64 (N : Int)),
  VIs (.pointer (some ⟨w1.heap.size, 0, none⟩)),
  VIs (.int .i64 (p : Int)),
  VIs (.int .i64 ((p - 1 : Nat) : Int)),
  VIs (.int .u64 (H : Int)),
  VIs (.int .u64 (H1 : Int)),
  VIs (.int .u64 (m0 : Int)),
  VIs (.int .u64 (N : Int)),
  VIs (.pointer (some ⟨w1.heap.size, 0, none⟩)),
  VIs (.int .i64 (p : Int)),
  VIs (.int .i64 ((p - 1 : Nat) : Int)),
  VIs (.int .u64 (J : Int)),
  VIs (.int .i64 sz),
  VIs (.pointer (some ⟨w1.heap.size, 0, none⟩)),
  VIs (.int .i64 (p : Int)),
  VIs (.int .i64 (ew : Int)),
  VIs (.int .u64 (X : Int)),
  VIs (.int .u64 (K : Int)),
  VIs (.int .u64 (x : Int)),
  VIs (.int .i64 (x : Int)),
  VIs (.int .u64 (m0 : Int)),
  VIs (.int .i64 (x : Int))]) (by kernel_rfl) (by kernel_rfl) (by kernel_rfl) (LiftAll.at_ (.cons (VIs.lift _) (.cons (VIs.lift _) (.cons (VIs.lift _) (.cons (VIs.lift _) (.cons (VIs.lift _) (.cons (VIs.lift _) (.cons (VIs.lift _) (.cons (VIs.lift _) (.cons (VIs.lift _) (.cons (VIs.lift _) (.cons (VIs.lift _) (.cons (VIs.lift _) (.cons (VIs.lift _) (.cons (VIs.lift _) (.cons (VIs.lift _) (.cons (VIs.lift _) (.cons (VIs.lift _) (.cons (VIs.lift _) (.cons (VIs.lift _) (.cons (VIs.lift _) (.cons (VIs.lift _) (.cons (VIs.lift _) .nil))))))))))))))))))))))) (steps_all (steps_cons ?_ (steps_cons ?_ (steps_cons ?_ (steps_cons ?_ (steps_cons ?_ (steps_cons ?_ (steps_cons ?_ (steps_cons ?_ (steps_cons ?_ (steps_cons ?_ (steps_cons ?_ (steps_cons ?_ (steps_cons ?_ (steps_cons ?_ (steps_cons ?_ (steps_cons ?_ (steps_cons ?_ (steps_cons ?_ (steps_cons ?_ (steps_cons ?_ (steps_cons ?_ (steps_cons ?_ steps_zero))))))))))))))))))))))) ?fin
 · intro a0 w9 K9 hF hB hK hC
   have b0 := hF.base (k := 0) (by kernel_rfl) rfl
   clear hF hB hK
   go_simp
   exact hC _ _ (bR _) fun _ _ => rfl
 · intro a0 w9 K9 hF hB hK hC
   have b6 := hF.base (k := 6) (by kernel_rfl) rfl
   clear hF hB hK
   go_simp
   exact hC _ _ (bR _) fun _ _ => rfl
 · intro a0 w9 K9 hF hB hK hC
   have e45 := depV hK 0 rfl rfl rfl rfl
   have x9 := (CF.out.below hB CF.out.lt).c0
   clear hF hB hK
   go_simp
   exact hC _ _ (bR _) fun _ _ => rfl
 · intro a0 w9 K9 hF hB hK hC
   have e46 := depV hK 0 rfl rfl rfl rfl
   have HB9 := Lib.hid hB
   clear hF hB hK
   go_simp
   exact hC _ _ (bR _) fun _ _ => rfl
 · intro a0 w9 K9 hF hB hK hC
   have e47 := depV hK 0 rfl rfl rfl rfl
   have HB9 := Lib.hid hB
   clear hF hB hK
   go_simp
   exact hC _ _ (bR _) fun _ _ => rfl
 · intro a0 w9 K9 hF hB hK hC
   have e48 := depV hK 0 rfl rfl rfl rfl
   have HB9 := Lib.hid hB
   clear hF hB hK
   go_simp
   exact hC _ _ (bR _) fun _ _ => rfl
 · intro a0 w9 K9 hF hB hK hC
   have e44 := depV hK 0 rfl rfl rfl rfl
   have e49 := depV hK 1 rfl rfl rfl rfl
   have HB9 := Lib.hid hB
   clear hF hB hK
   go_simp
   exact hC _ _ (bR _) fun _ _ => rfl
 · intro a0 w9 K9 hF hB hK hC
   have b0 := hF.base (k := 0) (by kernel_rfl) rfl
   clear hF hB hK
   go_simp
   exact hC _ _ (bR _) fun _ _ => rfl
 · intro a0 w9 K9 hF hB hK hC
   have b6 := hF.base (k := 6) (by kernel_rfl) rfl
   clear hF hB hK
   go_simp
   exact hC _ _ (bR _) fun _ _ => rfl
 · intro a0 w9 K9 hF hB hK hC
   have e52 := depV hK 0 rfl rfl rfl rfl
   have x9 := (CF.out.below hB CF.out.lt).c0
   clear hF hB hK
   go_simp
   exact hC _ _ (bR _) fun _ _ => rfl
 · intro a0 w9 K9 hF hB hK hC
   have e53 := depV hK 0 rfl rfl rfl rfl
   have HB9 := Lib.hid hB
   clear hF hB hK
   go_simp
   exact hC _ _ (bR _) fun _ _ => rfl
 · intro a0 w9 K9 hF hB hK hC
   have e51 := depV hK 0 rfl rfl rfl rfl
   have e54 := depV hK 1 rfl rfl rfl rfl
   have HB9 := Lib.hid hB
   clear hF hB hK
   go_simp
   exact hC _ _ (bR _) fun _ _ => rfl
 · intro a0 w9 K9 hF hB hK hC
   have b1 := hF.base (k := 1) (by kernel_rfl) rfl
   clear hF hB hK
   go_simp
   exact hC _ _ (bR _) fun _ _ => rfl
 · intro a0 w9 K9 hF hB hK hC
   have b6 := hF.base (k := 6) (by kernel_rfl) rfl
   clear hF hB hK
   go_simp
   exact hC _ _ (bR _) fun _ _ => rfl
 · intro a0 w9 K9 hF hB hK hC
   have e57 := depV hK 0 rfl rfl rfl rfl
   have x9 := (CF.out.below hB CF.out.lt).c0
   clear hF hB hK
   go_simp
   exact hC _ _ (bR _) fun _ _ => rfl
 · intro a0 w9 K9 hF hB hK hC
   have e56 := depV hK 0 rfl rfl rfl rfl
   have e58 := depV hK 1 rfl rfl rfl rfl
   have HB9 := Lib.hid hB
   clear hF hB hK
   go_simp
   exact hC _ _ (bR _) fun _ _ => rfl
 · intro a0 w9 K9 hF hB hK hC
   have e59 := depV hK 0 rfl rfl rfl rfl
   have HB9 := Lib.hid hB
   clear hF hB hK
   go_simp
   exact hC _ _ (bR _) fun _ _ => rfl
 · intro a0 w9 K9 hF hB hK hC
   have e60 := depV hK 0 rfl rfl rfl rfl
   have HB9 := Lib.hid hB
   clear hF hB hK
   go_simp
   exact hC _ _ (bR _) fun _ _ => rfl
 · intro a0 w9 K9 hF hB hK hC
   have e55 := depV hK 0 rfl rfl rfl rfl
   have e61 := depV hK 1 rfl rfl rfl rfl
   have HB9 := Lib.hid hB
   clear hF hB hK
   go_simp
   exact hC _ _ (bR _) fun _ _ => rfl
 · intro a0 w9 K9 hF hB hK hC
   have e62 := depV hK 0 rfl rfl rfl rfl
   have HB9 := Lib.hid hB
   clear hF hB hK
   go_simp
   exact hC _ _ (bR _) fun _ _ => rfl
 · intro a0 w9 K9 hF hB hK hC
   have e50 := depV hK 0 rfl rfl rfl rfl
   clear hF hB hK
   go_simp
   exact hC _ _ (bR _) fun _ _ => rfl
 · intro a0 w9 K9 hF hB hK hC
   have e63 := depV hK 0 rfl rfl rfl rfl
   clear hF hB hK
   go_simp
   exact hC _ _ (bR _) fun _ _ => rfl
 case fin =>
  intro a0 w9 hF hB hK
  have b0 := hF.base (k := 0) (by kernel_rfl) rfl
  have b1 := hF.base (k := 1) (by kernel_rfl) rfl
  have b4 := hF.base (k := 4) (by kernel_rfl) rfl
  have b5 := hF.base (k := 5) (by kernel_rfl) rfl
  have b6 := hF.base (k := 6) (by kernel_rfl) rfl
  have b8 := hF.base (k := 8) (by kernel_rfl) rfl
  have hsz := hF.size
  have hdf := hF.defers
  clear hF
  obtain ⟨v9, e9, z9⟩ := known hK 20 (k := 9) (by decide) rfl
  have z9 : v9 = .int .u64 (m0 : Int) := z9
  subst z9
  obtain ⟨v10, e10, z10⟩ := known hK 21 (k := 10) (by decide) rfl
  have z10 : v10 = .int .i64 (x : Int) := z10
  subst z10
  clear hK
  obtain ⟨⟨l0⟩, df⟩ := a0
  have hs0 : l0.length = 132 := hsz
  clear hsz
  replace hdf : df = _ := hdf
  subst hdf
  obtain ⟨u, rfl⟩ := lits_132 hs0
  clear hs0
  generalize hAr : (Array.mk [u 0, u 1, u 2, u 3, u 4, u 5, u 6, u 7, u 8, u 9, u 10, u 11, u 12, u 13, u 14, u 15, u 16, u 17, u 18, u 19, u 20, u 21, u 22, u 23, u 24, u 25, u 26, u 27, u 28, u 29, u 30, u 31, u 32, u 33, u 34, u 35, u 36, u 37, u 38, u 39, u 40, u 41, u 42, u 43, u 44, u 45, u 46, u 47, u 48, u 49, u 50, u 51, u 52, u 53, u 54, u 55, u 56, u 57, u 58, u 59, u 60, u 61, u 62, u 63, u 64, u 65, u 66, u 67, u 68, u 69, u 70, u 71, u 72, u 73, u 74, u 75, u 76, u 77, u 78, u 79, u 80, u 81, u 82, u 83, u 84, u 85, u 86, u 87, u 88, u 89, u 90, u 91, u 92, u 93, u 94, u 95, u 96, u 97, u 98, u 99, u 100, u 101, u 102, u 103, u 104, u 105, u 106, u 107, u 108, u 109, u 110, u 111, u 112, u 113, u 114, u 115, u 116, u 117, u 118, u 119, u 120, u 121, u 122, u 123, u 124, u 125, u 126, u 127, u 128, u 129, u 130, u 131] : Array Value) = ar
  obtain rfl : ar = #[u 0, u 1, u 2, u 3, u 4, u 5, u 6, u 7, u 8, u 9, u 10, u 11, u 12, u 13, u 14, u 15, u 16, u 17, u 18, u 19, u 20, u 21, u 22, u 23, u 24, u 25, u 26, u 27, u 28, u 29, u 30, u 31, u 32, u 33, u 34, u 35, u 36, u 37, u 38, u 39, u 40, u 41, u 42, u 43, u 44, u 45, u 46, u 47, u 48, u 49, u 50, u 51, u 52, u 53, u 54, u 55, u 56, u 57, u 58, u 59, u 60, u 61, u 62, u 63, u 64, u 65, u 66, u 67, u 68, u 69, u 70, u 71, u 72, u 73, u 74, u 75, u 76, u 77, u 78, u 79, u 80, u 81, u 82, u 83, u 84, u 85, u 86, u 87, u 88, u 89, u 90, u 91, u 92, u 93, u 94, u 95, u 96, u 97, u 98, u 99, u 100, u 101, u 102, u 103, u 104, u 105, u 106, u 107, u 108, u 109, u 110, u 111, u 112, u 113, u 114, u 115, u 116, u 117, u 118, u 119, u 120, u 121, u 122, u 123, u 124, u 125, u 126, u 127, u 128, u 129, u 130, u 131] := hAr.symm
  have q0 : u 0 = _ := Option.some.inj b0
  clear b0
  have q1 : u 1 = _ := Option.some.inj b1
  clear b1
  have q4 : u 4 = _ := Option.some.inj b4
  clear b4
  have q5 : u 5 = _ := Option.some.inj b5
  clear b5
  have q6 : u 6 = _ := Option.some.inj b6
  clear b6
  have q8 : u 8 = _ := Option.some.inj b8
  clear b8
  have q9 : u 9 = _ := Option.some.inj e9
  clear e9
  have q10 : u 10 = _ := Option.some.inj e10
  clear e10
  rw [q0, q1, q4, q5, q6, q8, q9, q10]
  clear q0 q1 q4 q5 q6 q8 q9 q10
  have hbl := hB; clear hB
  replace RES := hmB RES hbl
  replace CF := hmB CF hbl
  replace HW := hmW HW hbl; clear hbl
  clear CF0 CF1 CF2
  have CF0 := CF.out.c0
  have CF1 := CF.out.c1
  have CF2 := CF.out.c2
  refine wpList_nil ?_
  have hxK : x ≠ K := by rw [HM.out.2.1, HM.out.2.2.2.2.2.2]; intro h; refine hb ?_; rw [← h, ← HM.out.2.2.1]; exact Nat.div_mul_le_self b H
  have c1 : ((x : Int) == (K : Int)) = false := by simp only [beq_eq_false_iff_ne, ne_eq]; omega
  have HB := Lib.hid (And.intro hb hs); clear hb hs hxK
  go_upto_block 0 with fail
  obtain ⟨m, hm⟩ : ∃ m, m = mant p b := ⟨_, rfl⟩
  obtain ⟨y0, hy0⟩ : ∃ y, y = expo p b := ⟨_, rfl⟩
  have HY := Lib.hid (And.intro hm hy0)
  have hmx : x = 0 → m = m0 ∧ y0 = 0 := fun h => val_low HM.out.1 HM.out.2.1 HM.out.2.2.1 hm hy0 h
  have hmy : x ≠ 0 → m = m0 + H ∧ y0 + 1 = x := fun h => val_high HM.out.1 HM.out.2.1 HM.out.2.2.1 hm hy0 h
  have hmH : m ≤ 9007199254740992 := by rcases Nat.eq_zero_or_pos x with h | h; have := hmx h; have := HM.out.2.2.2.1; omega; have := hmy (by omega); have := HM.out.2.2.2.1; omega
  have hyx : y0 ≤ 2048 := by rcases Nat.eq_zero_or_pos x with h | h; have := hmx h; omega; have := hmy (by omega); have := HM.out.2.2.2.2.1; have := HX9.out; omega
  clear hm hy0
  go_cut [9, 10] (fun v v2 wx => wx = w9 ∧ v = .int .u64 (m : Int) ∧ v2 = .int .i64 ((y0 : Int) + 1))
  case first =>
   by_cases hx0 : x = 0
   · have c2 : ((x : Int) == 0) = true := by simp [hx0]
     obtain ⟨e1, e2⟩ := hmx hx0
     have HE := Lib.hid (And.intro e1 e2); clear e1 e2 hx0
     go_wp2_with fail
     go_meet
     exact ⟨rfl, by rw [HE.out.1], by rw [HE.out.2]; rfl⟩
   · have c2 : ((x : Int) == 0) = false := by simp [hx0]
     obtain ⟨e1, e2⟩ := hmy hx0
     have g10 : bits BinOp.or IntKind.u64 (m0 : Int) (H : Int) = (m : Int) := by
      have h1 := HM.out.2.2.2.1
      rw [u64_or_nat _ _ (by omega) (by omega), e1]
      have h2 := Nat.two_pow_add_eq_or_of_lt (show m0 < 2 ^ (p - 1) by rw [← HM.out.2.2.1]; exact h1) 1
      rw [Nat.mul_one, ← HM.out.2.2.1] at h2
      rw [Nat.or_comm, ← h2, Nat.add_comm]
     have HE := Lib.hid (And.intro e1 e2); clear e1 e2 hx0
     go_wp2_with fail
     go_meet
     exact ⟨rfl, rfl, by first | rfl | (congr 1; have := HE.out.2; omega)⟩
  case rest =>
   obtain ⟨rfl, rfl, rfl⟩ := hcut
   clear hmx hmy c1 k1 k2 k3 k4 k5 k6 k7 k8 k9 k10 k11 k12 k13 k14 k15 k16 k17
   go_wp2_with fail
   refine (of_any m _ (by omega)).mono ?_
   rintro e w2 ⟨vn, rfl, hnn, hbl⟩
   replace RES := hmB RES hbl
   replace CF := hmB CF hbl
   replace HW := hmW HW hbl; clear hbl
   clear CF0 CF1 CF2
   have CF0 := CF.out.c0
   have CF1 := CF.out.c1
   have CF2 := CF.out.c2
   have HNn := Lib.hid hnn; clear hnn
   obtain ⟨An, cn, rfl, hcn, hrn⟩ := HNn.out.row
   have Rn := Lib.hid hrn; have HCn := Lib.hid hcn; clear hrn hcn
   go_wp2_with fail
   refine (of_one _).mono ?_
   rintro e w3 ⟨vo, rfl, hno, hbl⟩
   replace Rn := hmR Rn hbl
   replace HNn := hmN HNn hbl
   replace RES := hmB RES hbl
   replace CF := hmB CF hbl
   replace HW := hmW HW hbl; clear hbl
   clear CF0 CF1 CF2
   have CF0 := CF.out.c0
   have CF1 := CF.out.c1
   have CF2 := CF.out.c2
   have HNo := Lib.hid hno; clear hno
   obtain ⟨Ao, co, rfl, hco, hro⟩ := HNo.out.row
   have Ro := Lib.hid hro; have HCo := Lib.hid hco; clear hro hco
   go_wp2_with fail
   go_loopw [9, 10, 11] (fun mv ev nv wr => ∃ (m1 k : Nat), mv = .int .u64 (m1 : Int) ∧ ev = .int .i64 ((y0 : Int) + 1 + k) ∧ VlRel w3 wr m m1 k nv) (fun mv _ _ _ => (intOf mv).toNat)
   case atStart => exact ⟨m, 0, rfl, by simp, bel_refl _, by simp, HNn.out, fun _ => rfl⟩
   case round =>
    obtain ⟨m1, k, rfl, rfl, hrel⟩ := hrel
    have HR := Lib.hid hrel; clear hrel
    clear CF0 CF1 CF2
    replace Rn := Lib.hid (Rn.out.below HR.out.old)
    replace HNn := Lib.hid (HNn.out.below HR.out.old)
    replace Ro := Lib.hid (Ro.out.below HR.out.old)
    replace HNo := Lib.hid (HNo.out.below HR.out.old)
    replace RES := Lib.hid (RES.out.below HR.out.old RES.out.lt)
    replace CF := Lib.hid (CF.out.below HR.out.old CF.out.lt)
    replace HW := Lib.hid (bel_trans HW.out HR.out.old)
    have CF0 := CF.out.c0
    have CF1 := CF.out.c1
    have CF2 := CF.out.c2
    have hmul := HR.out.mul
    have hk : m1 ≠ 0 → k ≤ 60 := fun h => val_k hmul h (by omega)
    have hm1m : m1 ≤ m := by rw [← hmul]; exact Nat.le_mul_of_pos_right _ (Nat.pow_pos (by decide))
    have hk00 := HR.out.k0
    have HK := Lib.hid (And.intro hmul (And.intro hk (And.intro hm1m hk00))); clear hmul hk00
    by_cases h0 : m1 = 0
    · have c3 : ((m1 : Int) != 0) = false := by simp [h0]
      have c5 : ((m1 : Int) == 0) = true := by simp [h0]
      have hk9 : k ≤ 60 := by have := HK.out.2.2.2 h0; omega
      have t1 : IntKind.i64.wrap (1 + (q : Int)) = 1 + (q : Int) := by rw [IntKind.wrap_i64]; omega
      obtain ⟨y, hy⟩ : ∃ y : Int, y = (y0 : Int) + k - q := ⟨_, rfl⟩
      have t2 : IntKind.i64.wrap ((y0 : Int) + 1 + k - (1 + (q : Int))) = y := by rw [IntKind.wrap_i64]; omega
      obtain ⟨A1, ca1, rfl, hca1, hra1⟩ := HR.out.num.row
      have RN := Lib.hid hra1; have KN := Lib.hid hca1; clear hra1 hca1
      clear hk hm1m
      have hb0 : b = 0 := by have h1 := HK.out.1; rw [h0, Nat.zero_mul] at h1; rw [HY.out.1] at h1; exact mant_zero.1 h1.symm
      have hy2 : y = -(q : Int) := by rw [hy, HK.out.2.2.2 h0, HY.out.2, hb0, show expo p 0 = 0 by unfold expo; rw [Nat.zero_div]]; omega
      subst hy2
      have t3 : (-(q : Int)) < 0 := by omega
      have t4 : IntKind.i64.wrap (q : Int) = (q : Int) := by rw [IntKind.wrap_i64]; omega
      have HB0 := Lib.hid (And.intro hb0 h0); clear hb0 h0 hy
      go_wp2_with fail
      refine (shift_up Ao co 1 q _ Ro.out (small_top (by decide))).mono ?_
      rintro e w4 ⟨ve, rfl, hne, hbl⟩
      replace Rn := hmR Rn hbl
      replace HNn := hmN HNn hbl
      replace Ro := hmR Ro hbl
      replace HNo := hmN HNo hbl
      replace RN := hmR RN hbl
      replace RES := hmB RES hbl
      replace CF := hmB CF hbl
      replace HW := hmW HW hbl; clear hbl
      clear CF0 CF1 CF2
      have CF0 := CF.out.c0
      have CF1 := CF.out.c1
      have CF2 := CF.out.c2
      have HNe := Lib.hid hne; clear hne
      obtain ⟨Ae, ce, rfl, hce, hre⟩ := HNe.out.row
      have Re := Lib.hid hre; have HCe := Lib.hid hce; clear hre hce
      go_wp2_with fail
      refine (of_one _).mono ?_
      rintro e w5 ⟨vp, rfl, hnp, hbl⟩
      replace Rn := hmR Rn hbl
      replace HNn := hmN HNn hbl
      replace Ro := hmR Ro hbl
      replace HNo := hmN HNo hbl
      replace RN := hmR RN hbl
      replace Re := hmR Re hbl
      replace HNe := hmN HNe hbl
      replace RES := hmB RES hbl
      replace CF := hmB CF hbl
      replace HW := hmW HW hbl; clear hbl
      clear CF0 CF1 CF2
      have CF0 := CF.out.c0
      have CF1 := CF.out.c1
      have CF2 := CF.out.c2
      have HNp := Lib.hid hnp; clear hnp
      obtain ⟨Ap, cp, rfl, hcp, hrp⟩ := HNp.out.row
      have Rp := Lib.hid hrp; have HCp := Lib.hid hcp; clear hrp hcp
      go_wp2_with fail
      refine (make_ok s A1 Ap ca1 cp m1 1 _ RN.out Rp.out KN.out HCp.out (small_top (by rw [HB0.out.2]; decide)) (small_top (by decide)) (by decide) (make_val (show m1 = LN p q b by rw [HB0.out.2, HB0.out.1]; exact (L_zero p q).1.symm) (show 1 = LD p q b by rw [HB0.out.1]; exact (L_zero p q).2.symm) HB.out.2)).mono ?_
      rintro e w6 ⟨vx, vy, rfl, hnx, hny, hbl⟩
      replace Rn := hmR Rn hbl
      replace HNn := hmN HNn hbl
      replace Ro := hmR Ro hbl
      replace HNo := hmN HNo hbl
      replace RN := hmR RN hbl
      replace Re := hmR Re hbl
      replace HNe := hmN HNe hbl
      replace Rp := hmR Rp hbl
      replace HNp := hmN HNp hbl
      replace RES := hmB RES hbl
      replace CF := hmB CF hbl
      replace HW := hmW HW hbl; clear hbl
      clear CF0 CF1 CF2
      have CF0 := CF.out.c0
      have CF1 := CF.out.c1
      have CF2 := CF.out.c2
      have HNx := Lib.hid hnx; clear hnx
      obtain ⟨Ax, cx, rfl, hcx, hrx⟩ := HNx.out.row
      have Rx := Lib.hid hrx; have HCx := Lib.hid hcx; clear hrx hcx
      have HNy := Lib.hid hny; clear hny
      obtain ⟨Ay, cy, rfl, hcy, hry⟩ := HNy.out.row
      have Ry := Lib.hid hry; have HCy := Lib.hid hcy; clear hry hcy
      have d0 := RES.out.c0
      have f0 := RES.out.frozen 0
      have d1 := RES.out.c1
      have f1 := RES.out.frozen 1
      have d2 := RES.out.c2
      have f2 := RES.out.frozen 2
      go_wp2
      exact bodyPost_ret (results_row_tmp rfl _ _ (w.heap.size) 25 _ (0, 0) _ _ rfl rfl (RES.out.put3 _ _ _) Tryz.underlying25 rfl (by kernel_rfl)) rfl (RetVal.fit (by rw [← (show m1 = LN p q b by rw [HB0.out.2, HB0.out.1]; exact (L_zero p q).1.symm)]; exact (small_top (by rw [HB0.out.2]; decide))) (by rw [← (show 1 = LD p q b by rw [HB0.out.1]; exact (L_zero p q).2.symm)]; exact (small_top (by decide))) ⟨_, _, rfl, (RdN.set3 RES.out (HNx.out) _ _ _), (RdN.set3 RES.out (HNy.out) _ _ _), (bel_set3 HW.out (Nat.le_refl _) _ _ _)⟩)
    · have c3 : ((m1 : Int) != 0) = true := by simp [h0]
      have c5 : ((m1 : Int) == 0) = false := by simp [h0]
      by_cases ho : m1 % 2 = 0
      · have c4 : (bits BinOp.and IntKind.u64 (m1 : Int) 1 == 0) = true := by rw [u64_and_one m1 (by omega), ho]; rfl
        have hk9 := hk h0
        obtain ⟨m2, hm2⟩ : ∃ x, x = m1 / 2 := ⟨_, rfl⟩
        have t1 : (m1 : Int) / 2 = (m2 : Int) := by omega
        have t2 : IntKind.i64.wrap ((y0 : Int) + 1 + k + 1) = (y0 : Int) + 1 + k + 1 := by rw [IntKind.wrap_i64]; omega
        have HN2 := Lib.hid (show m1 = 2 * m2 ∧ m1 ≠ 0 ∧ m2 < m1 ∧ m2 < 18446744073709551616 by omega); clear hm2 ho hk hk9
        go_wp2_with fail
        refine (of_any m2 _ HN2.out.2.2.2).mono ?_
        rintro e w7 ⟨v7, rfl, hn7, hbl⟩
        have H7 := Lib.hid (And.intro hn7 (bel_trans HR.out.old hbl)); clear hn7 hbl
        go_wp2
        go_roundw
        case rel => exact ⟨m2, k + 1, rfl, by first | rfl | (congr 1; omega), H7.out.2, by have h1 := HK.out.1; rw [HN2.out.1] at h1; rw [Nat.pow_succ, ← h1]; grind, H7.out.1, fun h => absurd h (by have := HN2.out; omega)⟩
        case measure => (have := HN2.out.2.2.1; simp [intOf]; omega)
      · have hodd : m1 % 2 = 1 := by omega
        have c4 : (bits BinOp.and IntKind.u64 (m1 : Int) 1 == 0) = false := by rw [u64_and_one m1 (by omega), hodd]; rfl
        have hk9 : k ≤ 60 := hk h0
        have t1 : IntKind.i64.wrap (1 + (q : Int)) = 1 + (q : Int) := by rw [IntKind.wrap_i64]; omega
        obtain ⟨y, hy⟩ : ∃ y : Int, y = (y0 : Int) + k - q := ⟨_, rfl⟩
        have t2 : IntKind.i64.wrap ((y0 : Int) + 1 + k - (1 + (q : Int))) = y := by rw [IntKind.wrap_i64]; omega
        obtain ⟨A1, ca1, rfl, hca1, hra1⟩ := HR.out.num.row
        have RN := Lib.hid hra1; have KN := Lib.hid hca1; clear hra1 hca1
        clear hk hm1m
        obtain ⟨L1, L2⟩ := L_odd (q := q) (HK.out.1.trans HY.out.1) hodd
        rw [← HY.out.2] at L1 L2
        have hmT : m1 < Top := Nat.lt_of_lt_of_le (show m1 < B32 ^ 2 by rw [B32_eq]; have := HK.out.2.2.1; omega) (Nat.pow_le_pow_right (by rw [B32_eq]; decide) (by decide))
        have HT := Lib.hid hmT; clear hmT hodd ho
        by_cases hneg : y < 0
        · obtain ⟨j, hj⟩ : ∃ j : Nat, y = -(j : Int) := ⟨(-y).toNat, by omega⟩
          have hj2 : y0 + k - q = 0 ∧ q - (y0 + k) = j := by omega
          rw [hj2.1, Nat.pow_zero, Nat.mul_one] at L1
          rw [hj2.2] at L2
          subst hj
          have t4 : IntKind.i64.wrap (j : Int) = (j : Int) := by rw [IntKind.wrap_i64]; omega
          have HL := Lib.hid (And.intro L1 L2); clear L1 L2 hj2 hy h0
          obtain ⟨P, hP⟩ : ∃ P, 1 * 2 ^ j = P := ⟨_, rfl⟩
          have HP := Lib.hid hP; clear hP
          by_cases hfit : P < Top
          · have HFIT := Lib.hid hfit; clear hfit
            go_wp2_with fail
            refine (shift_fit Ao co 1 j _ Ro.out (small_top (by decide)) HP.out HFIT.out).mono ?_
            rintro e w4 ⟨ve, rfl, hne, hbl⟩
            replace Rn := hmR Rn hbl
            replace HNn := hmN HNn hbl
            replace Ro := hmR Ro hbl
            replace HNo := hmN HNo hbl
            replace RN := hmR RN hbl
            replace RES := hmB RES hbl
            replace CF := hmB CF hbl
            replace HW := hmW HW hbl; clear hbl
            clear CF0 CF1 CF2
            have CF0 := CF.out.c0
            have CF1 := CF.out.c1
            have CF2 := CF.out.c2
            have HNe := Lib.hid hne; clear hne
            obtain ⟨Ae, ce, rfl, hce, hre⟩ := HNe.out.row
            have Re := Lib.hid hre; have HCe := Lib.hid hce; clear hre hce
            go_wp2_with fail
            refine (make_ok s A1 Ae ca1 ce m1 P _ RN.out Re.out KN.out HCe.out HT.out HFIT.out (by rw [← HP.out, Nat.one_mul]; exact Nat.ne_of_gt (Nat.pow_pos (by decide))) (make_val HL.out.1 (show P = LD p q b by rw [← HP.out, Nat.one_mul]; exact HL.out.2) HB.out.2)).mono ?_
            rintro e w5 ⟨vx, vy, rfl, hnx, hny, hbl⟩
            replace Rn := hmR Rn hbl
            replace HNn := hmN HNn hbl
            replace Ro := hmR Ro hbl
            replace HNo := hmN HNo hbl
            replace RN := hmR RN hbl
            replace Re := hmR Re hbl
            replace HNe := hmN HNe hbl
            replace RES := hmB RES hbl
            replace CF := hmB CF hbl
            replace HW := hmW HW hbl; clear hbl
            clear CF0 CF1 CF2
            have CF0 := CF.out.c0
            have CF1 := CF.out.c1
            have CF2 := CF.out.c2
            have HNx := Lib.hid hnx; clear hnx
            obtain ⟨Ax, cx, rfl, hcx, hrx⟩ := HNx.out.row
            have Rx := Lib.hid hrx; have HCx := Lib.hid hcx; clear hrx hcx
            have HNy := Lib.hid hny; clear hny
            obtain ⟨Ay, cy, rfl, hcy, hry⟩ := HNy.out.row
            have Ry := Lib.hid hry; have HCy := Lib.hid hcy; clear hry hcy
            have d0 := RES.out.c0
            have f0 := RES.out.frozen 0
            have d1 := RES.out.c1
            have f1 := RES.out.frozen 1
            have d2 := RES.out.c2
            have f2 := RES.out.frozen 2
            go_wp2
            exact bodyPost_ret (results_row_tmp rfl _ _ (w.heap.size) 25 _ (0, 0) _ _ rfl rfl (RES.out.put3 _ _ _) Tryz.underlying25 rfl (by kernel_rfl)) rfl (RetVal.fit (by rw [← HL.out.1]; exact HT.out) (by rw [← (show P = LD p q b by rw [← HP.out, Nat.one_mul]; exact HL.out.2)]; exact HFIT.out) ⟨_, _, rfl, (RdN.set3 RES.out (HNx.out) _ _ _), (RdN.set3 RES.out (HNy.out) _ _ _), (bel_set3 HW.out (Nat.le_refl _) _ _ _)⟩)
          · have HFIT := Lib.hid hfit; clear hfit
            go_wp2_with fail
            refine (shift_ovr Ao co 1 j _ Ro.out (small_top (by decide)) HP.out HFIT.out).mono ?_
            rintro e w4 ⟨ve, rfl, hne, hbl⟩
            replace Rn := hmR Rn hbl
            replace HNn := hmN HNn hbl
            replace Ro := hmR Ro hbl
            replace HNo := hmN HNo hbl
            replace RN := hmR RN hbl
            replace RES := hmB RES hbl
            replace CF := hmB CF hbl
            replace HW := hmW HW hbl; clear hbl
            clear CF0 CF1 CF2
            have CF0 := CF.out.c0
            have CF1 := CF.out.c1
            have CF2 := CF.out.c2
            have HNe := Lib.hid hne; clear hne
            obtain ⟨Ae, ce, rfl, hce, hre⟩ := HNe.out.row
            have Re := Lib.hid hre; have HCe := Lib.hid hce; clear hre hce
            have d0 := RES.out.c0
            have f0 := RES.out.frozen 0
            have d1 := RES.out.c1
            have f1 := RES.out.frozen 1
            have d2 := RES.out.c2
            have f2 := RES.out.frozen 2
            go_wp2
            exact bodyPost_ret (results_row_tmp rfl _ _ (w.heap.size) 25 _ (0, 0) _ _ rfl rfl (RES.out.put3 _ _ _) Tryz.underlying25 rfl (by kernel_rfl)) rfl (RetVal.over (by have h1 := HL.out.2; have h2 := HFIT.out; have h3 := HP.out; rw [Nat.one_mul] at h3; omega) ⟨_, _, rfl, (RdN.set3 RES.out (RdN.none0 _) _ _ _), (RdN.set3 RES.out (RdN.none0 _) _ _ _), (bel_set3 HW.out (Nat.le_refl _) _ _ _)⟩)
        · obtain ⟨j, hj⟩ : ∃ j : Nat, y = (j : Int) := ⟨y.toNat, by omega⟩
          have hj2 : y0 + k - q = j ∧ q - (y0 + k) = 0 := by omega
          rw [hj2.1] at L1
          rw [hj2.2, Nat.pow_zero] at L2
          subst hj
          have HL := Lib.hid (And.intro L1 L2); clear L1 L2 hj2 hy h0
          obtain ⟨P, hP⟩ : ∃ P, m1 * 2 ^ j = P := ⟨_, rfl⟩
          have HP := Lib.hid hP; clear hP
          by_cases hfit : P < Top
          · have HFIT := Lib.hid hfit; clear hfit
            go_wp2_with fail
            refine (shift_fit A1 ca1 m1 j _ RN.out HT.out HP.out HFIT.out).mono ?_
            rintro e w4 ⟨ve, rfl, hne, hbl⟩
            replace Rn := hmR Rn hbl
            replace HNn := hmN HNn hbl
            replace Ro := hmR Ro hbl
            replace HNo := hmN HNo hbl
            replace RN := hmR RN hbl
            replace RES := hmB RES hbl
            replace CF := hmB CF hbl
            replace HW := hmW HW hbl; clear hbl
            clear CF0 CF1 CF2
            have CF0 := CF.out.c0
            have CF1 := CF.out.c1
            have CF2 := CF.out.c2
            have HNe := Lib.hid hne; clear hne
            obtain ⟨Ae, ce, rfl, hce, hre⟩ := HNe.out.row
            have Re := Lib.hid hre; have HCe := Lib.hid hce; clear hre hce
            go_wp2_with fail
            refine (make_ok s Ae Ao ce co P 1 _ Re.out Ro.out HCe.out HCo.out HFIT.out (small_top (by decide)) (by decide) (make_val (show P = LN p q b by rw [← HP.out]; exact HL.out.1) (show 1 = LD p q b from HL.out.2) HB.out.2)).mono ?_
            rintro e w5 ⟨vx, vy, rfl, hnx, hny, hbl⟩
            replace Rn := hmR Rn hbl
            replace HNn := hmN HNn hbl
            replace Ro := hmR Ro hbl
            replace HNo := hmN HNo hbl
            replace RN := hmR RN hbl
            replace Re := hmR Re hbl
            replace HNe := hmN HNe hbl
            replace RES := hmB RES hbl
            replace CF := hmB CF hbl
            replace HW := hmW HW hbl; clear hbl
            clear CF0 CF1 CF2
            have CF0 := CF.out.c0
            have CF1 := CF.out.c1
            have CF2 := CF.out.c2
            have HNx := Lib.hid hnx; clear hnx
            obtain ⟨Ax, cx, rfl, hcx, hrx⟩ := HNx.out.row
            have Rx := Lib.hid hrx; have HCx := Lib.hid hcx; clear hrx hcx
            have HNy := Lib.hid hny; clear hny
            obtain ⟨Ay, cy, rfl, hcy, hry⟩ := HNy.out.row
            have Ry := Lib.hid hry; have HCy := Lib.hid hcy; clear hry hcy
            have d0 := RES.out.c0
            have f0 := RES.out.frozen 0
            have d1 := RES.out.c1
            have f1 := RES.out.frozen 1
            have d2 := RES.out.c2
            have f2 := RES.out.frozen 2
            go_wp2
            exact bodyPost_ret (results_row_tmp rfl _ _ (w.heap.size) 25 _ (0, 0) _ _ rfl rfl (RES.out.put3 _ _ _) Tryz.underlying25 rfl (by kernel_rfl)) rfl (RetVal.fit (by rw [← (show P = LN p q b by rw [← HP.out]; exact HL.out.1)]; exact HFIT.out) (by rw [← (show 1 = LD p q b from HL.out.2)]; exact (small_top (by decide))) ⟨_, _, rfl, (RdN.set3 RES.out (HNx.out) _ _ _), (RdN.set3 RES.out (HNy.out) _ _ _), (bel_set3 HW.out (Nat.le_refl _) _ _ _)⟩)
          · have HFIT := Lib.hid hfit; clear hfit
            go_wp2_with fail
            refine (shift_ovr A1 ca1 m1 j _ RN.out HT.out HP.out HFIT.out).mono ?_
            rintro e w4 ⟨ve, rfl, hne, hbl⟩
            replace Rn := hmR Rn hbl
            replace HNn := hmN HNn hbl
            replace Ro := hmR Ro hbl
            replace HNo := hmN HNo hbl
            replace RN := hmR RN hbl
            replace RES := hmB RES hbl
            replace CF := hmB CF hbl
            replace HW := hmW HW hbl; clear hbl
            clear CF0 CF1 CF2
            have CF0 := CF.out.c0
            have CF1 := CF.out.c1
            have CF2 := CF.out.c2
            have HNe := Lib.hid hne; clear hne
            obtain ⟨Ae, ce, rfl, hce, hre⟩ := HNe.out.row
            have Re := Lib.hid hre; have HCe := Lib.hid hce; clear hre hce
            have d0 := RES.out.c0
            have f0 := RES.out.frozen 0
            have d1 := RES.out.c1
            have f1 := RES.out.frozen 1
            have d2 := RES.out.c2
            have f2 := RES.out.frozen 2
            go_wp2
            exact bodyPost_ret (results_row_tmp rfl _ _ (w.heap.size) 25 _ (0, 0) _ _ rfl rfl (RES.out.put3 _ _ _) Tryz.underlying25 rfl (by kernel_rfl)) rfl (RetVal.over (by have h1 := HL.out.1; have h2 := HFIT.out; have h3 := HP.out; omega) ⟨_, _, rfl, (RdN.set3 RES.out (RdN.none0 _) _ _ _), (RdN.set3 RES.out (RdN.none0 _) _ _ _), (bel_set3 HW.out (Nat.le_refl _) _ _ _)⟩)

theorem rvalue_good_t (N : Nat) (sz : Int) (p q t b : Nat) (s : Bool) (w : World) (hf : Fm sz p q t) (z1 : (sz == 32) = true) (h32 : N < 4294967296) (hb : ¬ (t + q + 2) * 2 ^ (p - 1) ≤ b) (hs : b = 0 → s = false) (hN : N = b + s.toNat * 2 ^ (sz.toNat - 1)) :
 Calls Tryz.prog 108 #[.int .u64 (N : Int), .int .i64 sz] w (RetVal s p q b w) := by
 obtain ⟨op1, op2, oq0, oq, ot, os1, os2⟩ := hf.ok
 obtain ⟨z, hz3⟩ : ∃ z : Nat, sz = (z : Int) + 1 := ⟨sz.toNat - 1, by omega⟩
 obtain ⟨ew, hw1, hw2, hw3, hw4, hw5⟩ := hf.wide hz3
 have HF := Lib.hid hf; clear hf
 obtain ⟨Z, hZ⟩ : ∃ Z, Z = 2 ^ z := ⟨_, rfl⟩
 obtain ⟨H, hH⟩ : ∃ H, H = 2 ^ (p - 1) := ⟨_, rfl⟩
 obtain ⟨X, hX⟩ : ∃ X, X = 2 ^ ew := ⟨_, rfl⟩
 have hZH : Z = H * X := by rw [hZ, hH, hX, ← Nat.pow_add, hw1]
 have hH0 : 0 < H := by rw [hH]; exact Nat.pow_pos (by decide)
 have hH1 : H ≤ 4503599627370496 := by rw [hH]; exact Nat.pow_le_pow_right (n := 2) (j := 52) (by decide) (by omega)
 have hX1 : X ≤ 2048 := by rw [hX]; exact Nat.pow_le_pow_right (n := 2) (j := 11) (by decide) hw4
 have hZ1 : Z ≤ 9223372036854775808 := by rw [hZ]; exact Nat.pow_le_pow_right (n := 2) (j := 63) (by decide) hw5
 have hz9 : sz.toNat - 1 = z := by omega
 rw [hz9, ← hZ] at hN
 have g1 : IntKind.i64.wrap (sz - 1) = (z : Int) := by rw [IntKind.wrap_i64]; omega
 have g2 : min z 64 = z := by omega
 have g3 : (2 : Int) ^ z = (Z : Int) := by rw [hZ, Int.natCast_pow]; rfl
 have g4 : IntKind.u64.wrap (Z : Int) = (Z : Int) := by rw [IntKind.wrap_u64]; omega
 have HZ1 := Lib.hid (And.intro z1 (And.intro h32 (And.intro hZ hz3))); clear z1 h32
 have hbZ : b < Z := by rw [hZ]; exact fit_code HF.out hz3 hb
 have hNZ : N ≠ Z := by
  cases s
  · rw [hN]; simp; omega
  · have : b ≠ 0 := fun h => by have := hs h; cases this
    rw [hN]; simp; omega
 have hNZ2 : N < 18446744073709551616 := by
  rw [hN]
  cases s
  · simp; omega
  · simp; omega
 have g5 : ((N : Int) == (Z : Int)) = false := by simp only [beq_eq_false_iff_ne, ne_eq]; omega
 have g6 : ¬ (N : Int) = (Z : Int) := by omega
 obtain ⟨r1, r2, r3⟩ := parts (s := s.toNat) hbZ hZH hH0
 rw [← hN] at r1 r2 r3
 obtain ⟨x, hx⟩ : ∃ x, x = b / H := ⟨_, rfl⟩
 obtain ⟨m0, hm0⟩ : ∃ m, m = b % H := ⟨_, rfl⟩
 rw [← hm0] at r2
 rw [← hx] at r3
 have hm1 : m0 < H := by rw [hm0]; exact Nat.mod_lt _ hH0
 have hxX : x < X := by rw [hx, Nat.div_lt_iff_lt_mul hH0, Nat.mul_comm, ← hZH]; exact hbZ
 have g7 : (N : Int) / (Z : Int) = ((s.toNat : Nat) : Int) := by rw [← r1]; exact (Int.natCast_ediv N Z).symm
 have g8 : (((s.toNat : Nat) : Int) == 1) = s := b_eq s
 obtain ⟨J, hJ⟩ : ∃ J, J = N / H := ⟨_, rfl⟩
 rw [← hJ] at r3
 obtain ⟨H1, hH2⟩ : ∃ H1, H1 = H - 1 := ⟨_, rfl⟩
 obtain ⟨K, hK⟩ : ∃ K, K = t + q + 2 := ⟨_, rfl⟩
 have hKX : X = K + 1 := by rw [hK, hX]; omega
 have hJN : J ≤ N := by rw [hJ]; exact Nat.div_le_self _ _
 have k1 : IntKind.i64.wrap ((p : Int) - 1) = ((p - 1 : Nat) : Int) := by rw [IntKind.wrap_i64]; omega
 have k2 : min (p - 1) 64 = p - 1 := by omega
 have k3 : (2 : Int) ^ (p - 1) = (H : Int) := by rw [hH, Int.natCast_pow]; rfl
 have k4 : IntKind.u64.wrap (H : Int) = (H : Int) := by rw [IntKind.wrap_u64]; omega
 have k5 : IntKind.u64.wrap ((H : Int) - 1) = (H1 : Int) := by rw [IntKind.wrap_u64]; omega
 have k6 : bits BinOp.and IntKind.u64 (N : Int) (H1 : Int) = (m0 : Int) := by rw [u64_and_nat _ _ hNZ2 (by omega), hH2, hH, Nat.and_two_pow_sub_one_eq_mod, ← hH, r2]
 have k7 : (N : Int) / (H : Int) = (J : Int) := by rw [hJ]; exact (Int.natCast_ediv N H).symm
 have k8 : IntKind.i64.wrap (sz - (p : Int)) = (ew : Int) := by rw [IntKind.wrap_i64]; omega
 have k9 : min ew 64 = ew := by omega
 have k10 : (2 : Int) ^ ew = (X : Int) := by rw [hX, Int.natCast_pow]; rfl
 have k11 : IntKind.u64.wrap (X : Int) = (X : Int) := by rw [IntKind.wrap_u64]; omega
 have k12 : IntKind.u64.wrap ((X : Int) - 1) = (K : Int) := by rw [IntKind.wrap_u64]; omega
 have k13 : bits BinOp.and IntKind.u64 (J : Int) (K : Int) = (x : Int) := by rw [u64_and_nat _ _ (by omega) (by omega), show K = 2 ^ ew - 1 by omega, Nat.and_two_pow_sub_one_eq_mod, ← hX, r3]
 have k14 : IntKind.i64.wrap (x : Int) = (x : Int) := by rw [IntKind.wrap_i64]; omega
 have k15 : IntKind.i64.wrap (X : Int) = (X : Int) := by rw [IntKind.wrap_i64]; omega
 have k16 : IntKind.i64.wrap ((X : Int) - 1) = (K : Int) := by rw [IntKind.wrap_i64]; omega
 have k17 : IntKind.u64.wrap (x : Int) = (x : Int) := by rw [IntKind.wrap_u64]; omega
 have HX9 := Lib.hid hX1
 have HM := Lib.hid (And.intro hm0 (And.intro hx (And.intro hH (And.intro hm1 (And.intro hxX (And.intro hKX hK)))))); clear hm0 hx hm1 hxX hKX hK
 clear r1 r2 r3 hJ hJN hNZ hNZ2 hbZ hN hZH hH0 hX1 hZ1 hz9 hw1 hw2 hw3 hX hH2 hZ hH hz3
 obtain ⟨wa, hwa⟩ : ∃ wa, wa = w.alloc (.cells #[.bool false, .slice none 0 0, .slice none 0 0] 25) := ⟨_, rfl⟩
 obtain ⟨hbl, RES⟩ := sal1 hwa
 have HW := Lib.hid hbl; clear hbl
 go_enter Tryz.func108, Tryz.ntmps108
 go_wp2_with fail
 rw [← hwa]
 clear hwa
 refine (forms_any _).mono ?_
 rintro e w1 ⟨rfl, hmap, hbl⟩
 replace RES := hmB RES hbl
 replace HW := hmW HW hbl; clear hbl
 have hlk := look_form hmap HF.out
 clear hmap
 go_upto_region 2 with fail
 obtain ⟨wm, hwm⟩ : ∃ wm, wm = w1.alloc (.cells #[.int .i64 (p : Int), .int .i64 (q : Int), .int .i64 (t : Int)] 148) := ⟨_, rfl⟩
 rw [← hwm]
 obtain ⟨hbl, CF⟩ := sal1 hwm
 clear hwm
 replace RES := hmB RES hbl
 replace HW := hmW HW hbl; clear hbl
 have CF0 := CF.out.c0
 have CF1 := CF.out.c1
 have CF2 := CF.out.c2
 go_cut [37] (fun v wx => v = .bool false ∧ wx = wm)
 case first =>
  obtain ⟨z1, h32, hZ, hz3⟩ := HZ1.out
  obtain rfl : sz = 32 := by simpa using z1
  obtain rfl : z = 31 := by omega
  rw [show (2 : Nat) ^ 31 = 2147483648 from rfl] at hZ
  subst hZ
  have g9 : (N : Int) / 4294967296 = 0 := by omega
  have g55 : ((N : Int) == 2147483648) = false := g5
  clear z1 h32 hz3 g1 g2 g3 g4 g7
  go_wp2_with fail
  go_meet
  exact ⟨rfl, rfl⟩
 case rest =>
  obtain ⟨rfl, rfl⟩ := hcut
  go_upto_region 5 with fail
  refine wp_region_typed 22 (TOf [VIs (.int .u64 (N : Int)),
   VIs (.pointer (some ⟨w1.heap.size, 0, none⟩)),
   VIs (.int .i64 (p : Int)),
   VIs (.int .i64 ((p - 1 : Nat) : Int)),
   VIs (.int .u64 (H : Int)),
   VIs (.int .u64 (H1 : Int)),
   VIs (.int .u64 (m0 : Int)),
   VIs (.int .u64 (N : Int)),
   VIs (.pointer (some ⟨w1.heap.size, 0, none⟩)),
   VIs (.int .i64 (p : Int)),
   VIs (.int .i64 ((p - 1 : Nat) : Int)),
   VIs (.int .u64 (J : Int)),
   VIs (.int .i64 sz),
   VIs (.pointer (some ⟨w1.heap.size, 0, none⟩)),
   VIs (.int .i64 (p : Int)),
   VIs (.int .i64 (ew : Int)),
   VIs (.int .u64 (X : Int)),
   VIs (.int .u64 (K : Int)),
   VIs (.int .u64 (x : Int)),
   VIs (.int .i64 (x : Int)),
   VIs (.int .u64 (m0 : Int)),
   VIs (.int .i64 (x : Int))]) (by kernel_rfl) (by kernel_rfl) (by kernel_rfl) (LiftAll.at_ (.cons (VIs.lift _) (.cons (VIs.lift _) (.cons (VIs.lift _) (.cons (VIs.lift _) (.cons (VIs.lift _) (.cons (VIs.lift _) (.cons (VIs.lift _) (.cons (VIs.lift _) (.cons (VIs.lift _) (.cons (VIs.lift _) (.cons (VIs.lift _) (.cons (VIs.lift _) (.cons (VIs.lift _) (.cons (VIs.lift _) (.cons (VIs.lift _) (.cons (VIs.lift _) (.cons (VIs.lift _) (.cons (VIs.lift _) (.cons (VIs.lift _) (.cons (VIs.lift _) (.cons (VIs.lift _) (.cons (VIs.lift _) .nil))))))))))))))))))))))) (steps_all (steps_cons ?_ (steps_cons ?_ (steps_cons ?_ (steps_cons ?_ (steps_cons ?_ (steps_cons ?_ (steps_cons ?_ (steps_cons ?_ (steps_cons ?_ (steps_cons ?_ (steps_cons ?_ (steps_cons ?_ (steps_cons ?_ (steps_cons ?_ (steps_cons ?_ (steps_cons ?_ (steps_cons ?_ (steps_cons ?_ (steps_cons ?_ (steps_cons ?_ (steps_cons ?_ (steps_cons ?_ steps_zero))))))))))))))))))))))) ?fin
  · intro a0 w9 K9 hF hB hK hC
    have b0 := hF.base (k := 0) (by kernel_rfl) rfl
    clear hF hB hK
    go_simp
    exact hC _ _ (bR _) fun _ _ => rfl
  · intro a0 w9 K9 hF hB hK hC
    have b6 := hF.base (k := 6) (by kernel_rfl) rfl
    clear hF hB hK
    go_simp
    exact hC _ _ (bR _) fun _ _ => rfl
  · intro a0 w9 K9 hF hB hK hC
    have e45 := depV hK 0 rfl rfl rfl rfl
    have x9 := (CF.out.below hB CF.out.lt).c0
    clear hF hB hK
    go_simp
    exact hC _ _ (bR _) fun _ _ => rfl
  · intro a0 w9 K9 hF hB hK hC
    have e46 := depV hK 0 rfl rfl rfl rfl
    have HB9 := Lib.hid hB
    clear hF hB hK
    go_simp
    exact hC _ _ (bR _) fun _ _ => rfl
  · intro a0 w9 K9 hF hB hK hC
    have e47 := depV hK 0 rfl rfl rfl rfl
    have HB9 := Lib.hid hB
    clear hF hB hK
    go_simp
    exact hC _ _ (bR _) fun _ _ => rfl
  · intro a0 w9 K9 hF hB hK hC
    have e48 := depV hK 0 rfl rfl rfl rfl
    have HB9 := Lib.hid hB
    clear hF hB hK
    go_simp
    exact hC _ _ (bR _) fun _ _ => rfl
  · intro a0 w9 K9 hF hB hK hC
    have e44 := depV hK 0 rfl rfl rfl rfl
    have e49 := depV hK 1 rfl rfl rfl rfl
    have HB9 := Lib.hid hB
    clear hF hB hK
    go_simp
    exact hC _ _ (bR _) fun _ _ => rfl
  · intro a0 w9 K9 hF hB hK hC
    have b0 := hF.base (k := 0) (by kernel_rfl) rfl
    clear hF hB hK
    go_simp
    exact hC _ _ (bR _) fun _ _ => rfl
  · intro a0 w9 K9 hF hB hK hC
    have b6 := hF.base (k := 6) (by kernel_rfl) rfl
    clear hF hB hK
    go_simp
    exact hC _ _ (bR _) fun _ _ => rfl
  · intro a0 w9 K9 hF hB hK hC
    have e52 := depV hK 0 rfl rfl rfl rfl
    have x9 := (CF.out.below hB CF.out.lt).c0
    clear hF hB hK
    go_simp
    exact hC _ _ (bR _) fun _ _ => rfl
  · intro a0 w9 K9 hF hB hK hC
    have e53 := depV hK 0 rfl rfl rfl rfl
    have HB9 := Lib.hid hB
    clear hF hB hK
    go_simp
    exact hC _ _ (bR _) fun _ _ => rfl
  · intro a0 w9 K9 hF hB hK hC
    have e51 := depV hK 0 rfl rfl rfl rfl
    have e54 := depV hK 1 rfl rfl rfl rfl
    have HB9 := Lib.hid hB
    clear hF hB hK
    go_simp
    exact hC _ _ (bR _) fun _ _ => rfl
  · intro a0 w9 K9 hF hB hK hC
    have b1 := hF.base (k := 1) (by kernel_rfl) rfl
    clear hF hB hK
    go_simp
    exact hC _ _ (bR _) fun _ _ => rfl
  · intro a0 w9 K9 hF hB hK hC
    have b6 := hF.base (k := 6) (by kernel_rfl) rfl
    clear hF hB hK
    go_simp
    exact hC _ _ (bR _) fun _ _ => rfl
  · intro a0 w9 K9 hF hB hK hC
    have e57 := depV hK 0 rfl rfl rfl rfl
    have x9 := (CF.out.below hB CF.out.lt).c0
    clear hF hB hK
    go_simp
    exact hC _ _ (bR _) fun _ _ => rfl
  · intro a0 w9 K9 hF hB hK hC
    have e56 := depV hK 0 rfl rfl rfl rfl
    have e58 := depV hK 1 rfl rfl rfl rfl
    have HB9 := Lib.hid hB
    clear hF hB hK
    go_simp
    exact hC _ _ (bR _) fun _ _ => rfl
  · intro a0 w9 K9 hF hB hK hC
    have e59 := depV hK 0 rfl rfl rfl rfl
    have HB9 := Lib.hid hB
    clear hF hB hK
    go_simp
    exact hC _ _ (bR _) fun _ _ => rfl
  · intro a0 w9 K9 hF hB hK hC
    have e60 := depV hK 0 rfl rfl rfl rfl
    have HB9 := Lib.hid hB
    clear hF hB hK
    go_simp
    exact hC _ _ (bR _) fun _ _ => rfl
  · intro a0 w9 K9 hF hB hK hC
    have e55 := depV hK 0 rfl rfl rfl rfl
    have e61 := depV hK 1 rfl rfl rfl rfl
    have HB9 := Lib.hid hB
    clear hF hB hK
    go_simp
    exact hC _ _ (bR _) fun _ _ => rfl
  · intro a0 w9 K9 hF hB hK hC
    have e62 := depV hK 0 rfl rfl rfl rfl
    have HB9 := Lib.hid hB
    clear hF hB hK
    go_simp
    exact hC _ _ (bR _) fun _ _ => rfl
  · intro a0 w9 K9 hF hB hK hC
    have e50 := depV hK 0 rfl rfl rfl rfl
    clear hF hB hK
    go_simp
    exact hC _ _ (bR _) fun _ _ => rfl
  · intro a0 w9 K9 hF hB hK hC
    have e63 := depV hK 0 rfl rfl rfl rfl
    clear hF hB hK
    go_simp
    exact hC _ _ (bR _) fun _ _ => rfl
  case fin =>
   intro a0 w9 hF hB hK
   have b0 := hF.base (k := 0) (by kernel_rfl) rfl
   have b1 := hF.base (k := 1) (by kernel_rfl) rfl
   have b4 := hF.base (k := 4) (by kernel_rfl) rfl
   have b5 := hF.base (k := 5) (by kernel_rfl) rfl
   have b6 := hF.base (k := 6) (by kernel_rfl) rfl
   have b8 := hF.base (k := 8) (by kernel_rfl) rfl
   have hsz := hF.size
   have hdf := hF.defers
   clear hF
   obtain ⟨v9, e9, z9⟩ := known hK 20 (k := 9) (by decide) rfl
   have z9 : v9 = .int .u64 (m0 : Int) := z9
   subst z9
   obtain ⟨v10, e10, z10⟩ := known hK 21 (k := 10) (by decide) rfl
   have z10 : v10 = .int .i64 (x : Int) := z10
   subst z10
   clear hK
   obtain ⟨⟨l0⟩, df⟩ := a0
   have hs0 : l0.length = 132 := hsz
   clear hsz
   replace hdf : df = _ := hdf
   subst hdf
   obtain ⟨u, rfl⟩ := lits_132 hs0
   clear hs0
   generalize hAr : (Array.mk [u 0, u 1, u 2, u 3, u 4, u 5, u 6, u 7, u 8, u 9, u 10, u 11, u 12, u 13, u 14, u 15, u 16, u 17, u 18, u 19, u 20, u 21, u 22, u 23, u 24, u 25, u 26, u 27, u 28, u 29, u 30, u 31, u 32, u 33, u 34, u 35, u 36, u 37, u 38, u 39, u 40, u 41, u 42, u 43, u 44, u 45, u 46, u 47, u 48, u 49, u 50, u 51, u 52, u 53, u 54, u 55, u 56, u 57, u 58, u 59, u 60, u 61, u 62, u 63, u 64, u 65, u 66, u 67, u 68, u 69, u 70, u 71, u 72, u 73, u 74, u 75, u 76, u 77, u 78, u 79, u 80, u 81, u 82, u 83, u 84, u 85, u 86, u 87, u 88, u 89, u 90, u 91, u 92, u 93, u 94, u 95, u 96, u 97, u 98, u 99, u 100, u 101, u 102, u 103, u 104, u 105, u 106, u 107, u 108, u 109, u 110, u 111, u 112, u 113, u 114, u 115, u 116, u 117, u 118, u 119, u 120, u 121, u 122, u 123, u 124, u 125, u 126, u 127, u 128, u 129, u 130, u 131] : Array Value) = ar
   obtain rfl : ar = #[u 0, u 1, u 2, u 3, u 4, u 5, u 6, u 7, u 8, u 9, u 10, u 11, u 12, u 13, u 14, u 15, u 16, u 17, u 18, u 19, u 20, u 21, u 22, u 23, u 24, u 25, u 26, u 27, u 28, u 29, u 30, u 31, u 32, u 33, u 34, u 35, u 36, u 37, u 38, u 39, u 40, u 41, u 42, u 43, u 44, u 45, u 46, u 47, u 48, u 49, u 50, u 51, u 52, u 53, u 54, u 55, u 56, u 57, u 58, u 59, u 60, u 61, u 62, u 63, u 64, u 65, u 66, u 67, u 68, u 69, u 70, u 71, u 72, u 73, u 74, u 75, u 76, u 77, u 78, u 79, u 80, u 81, u 82, u 83, u 84, u 85, u 86, u 87, u 88, u 89, u 90, u 91, u 92, u 93, u 94, u 95, u 96, u 97, u 98, u 99, u 100, u 101, u 102, u 103, u 104, u 105, u 106, u 107, u 108, u 109, u 110, u 111, u 112, u 113, u 114, u 115, u 116, u 117, u 118, u 119, u 120, u 121, u 122, u 123, u 124, u 125, u 126, u 127, u 128, u 129, u 130, u 131] := hAr.symm
   have q0 : u 0 = _ := Option.some.inj b0
   clear b0
   have q1 : u 1 = _ := Option.some.inj b1
   clear b1
   have q4 : u 4 = _ := Option.some.inj b4
   clear b4
   have q5 : u 5 = _ := Option.some.inj b5
   clear b5
   have q6 : u 6 = _ := Option.some.inj b6
   clear b6
   have q8 : u 8 = _ := Option.some.inj b8
   clear b8
   have q9 : u 9 = _ := Option.some.inj e9
   clear e9
   have q10 : u 10 = _ := Option.some.inj e10
   clear e10
   rw [q0, q1, q4, q5, q6, q8, q9, q10]
   clear q0 q1 q4 q5 q6 q8 q9 q10
   have hbl := hB; clear hB
   replace RES := hmB RES hbl
   replace CF := hmB CF hbl
   replace HW := hmW HW hbl; clear hbl
   clear CF0 CF1 CF2
   have CF0 := CF.out.c0
   have CF1 := CF.out.c1
   have CF2 := CF.out.c2
   refine wpList_nil ?_
   have hxK : x ≠ K := by rw [HM.out.2.1, HM.out.2.2.2.2.2.2]; intro h; refine hb ?_; rw [← h, ← HM.out.2.2.1]; exact Nat.div_mul_le_self b H
   have c1 : ((x : Int) == (K : Int)) = false := by simp only [beq_eq_false_iff_ne, ne_eq]; omega
   have HB := Lib.hid (And.intro hb hs); clear hb hs hxK
   go_upto_block 0 with fail
   obtain ⟨m, hm⟩ : ∃ m, m = mant p b := ⟨_, rfl⟩
   obtain ⟨y0, hy0⟩ : ∃ y, y = expo p b := ⟨_, rfl⟩
   have HY := Lib.hid (And.intro hm hy0)
   have hmx : x = 0 → m = m0 ∧ y0 = 0 := fun h => val_low HM.out.1 HM.out.2.1 HM.out.2.2.1 hm hy0 h
   have hmy : x ≠ 0 → m = m0 + H ∧ y0 + 1 = x := fun h => val_high HM.out.1 HM.out.2.1 HM.out.2.2.1 hm hy0 h
   have hmH : m ≤ 9007199254740992 := by rcases Nat.eq_zero_or_pos x with h | h; have := hmx h; have := HM.out.2.2.2.1; omega; have := hmy (by omega); have := HM.out.2.2.2.1; omega
   have hyx : y0 ≤ 2048 := by rcases Nat.eq_zero_or_pos x with h | h; have := hmx h; omega; have := hmy (by omega); have := HM.out.2.2.2.2.1; have := HX9.out; omega
   clear hm hy0
   go_cut [9, 10] (fun v v2 wx => wx = w9 ∧ v = .int .u64 (m : Int) ∧ v2 = .int .i64 ((y0 : Int) + 1))
   case first =>
    by_cases hx0 : x = 0
    · have c2 : ((x : Int) == 0) = true := by simp [hx0]
      obtain ⟨e1, e2⟩ := hmx hx0
      have HE := Lib.hid (And.intro e1 e2); clear e1 e2 hx0
      go_wp2_with fail
      go_meet
      exact ⟨rfl, by rw [HE.out.1], by rw [HE.out.2]; rfl⟩
    · have c2 : ((x : Int) == 0) = false := by simp [hx0]
      obtain ⟨e1, e2⟩ := hmy hx0
      have g10 : bits BinOp.or IntKind.u64 (m0 : Int) (H : Int) = (m : Int) := by
       have h1 := HM.out.2.2.2.1
       rw [u64_or_nat _ _ (by omega) (by omega), e1]
       have h2 := Nat.two_pow_add_eq_or_of_lt (show m0 < 2 ^ (p - 1) by rw [← HM.out.2.2.1]; exact h1) 1
       rw [Nat.mul_one, ← HM.out.2.2.1] at h2
       rw [Nat.or_comm, ← h2, Nat.add_comm]
      have HE := Lib.hid (And.intro e1 e2); clear e1 e2 hx0
      go_wp2_with fail
      go_meet
      exact ⟨rfl, rfl, by first | rfl | (congr 1; have := HE.out.2; omega)⟩
   case rest =>
    obtain ⟨rfl, rfl, rfl⟩ := hcut
    clear hmx hmy c1 k1 k2 k3 k4 k5 k6 k7 k8 k9 k10 k11 k12 k13 k14 k15 k16 k17
    go_wp2_with fail
    refine (of_any m _ (by omega)).mono ?_
    rintro e w3 ⟨vn, rfl, hnn, hbl⟩
    replace RES := hmB RES hbl
    replace CF := hmB CF hbl
    replace HW := hmW HW hbl; clear hbl
    clear CF0 CF1 CF2
    have CF0 := CF.out.c0
    have CF1 := CF.out.c1
    have CF2 := CF.out.c2
    have HNn := Lib.hid hnn; clear hnn
    obtain ⟨An, cn, rfl, hcn, hrn⟩ := HNn.out.row
    have Rn := Lib.hid hrn; have HCn := Lib.hid hcn; clear hrn hcn
    go_wp2_with fail
    refine (of_one _).mono ?_
    rintro e w4 ⟨vo, rfl, hno, hbl⟩
    replace Rn := hmR Rn hbl
    replace HNn := hmN HNn hbl
    replace RES := hmB RES hbl
    replace CF := hmB CF hbl
    replace HW := hmW HW hbl; clear hbl
    clear CF0 CF1 CF2
    have CF0 := CF.out.c0
    have CF1 := CF.out.c1
    have CF2 := CF.out.c2
    have HNo := Lib.hid hno; clear hno
    obtain ⟨Ao, co, rfl, hco, hro⟩ := HNo.out.row
    have Ro := Lib.hid hro; have HCo := Lib.hid hco; clear hro hco
    go_wp2_with fail
    go_loopw [9, 10, 11] (fun mv ev nv wr => ∃ (m1 k : Nat), mv = .int .u64 (m1 : Int) ∧ ev = .int .i64 ((y0 : Int) + 1 + k) ∧ VlRel w4 wr m m1 k nv) (fun mv _ _ _ => (intOf mv).toNat)
    case atStart => exact ⟨m, 0, rfl, by simp, bel_refl _, by simp, HNn.out, fun _ => rfl⟩
    case round =>
     obtain ⟨m1, k, rfl, rfl, hrel⟩ := hrel
     have HR := Lib.hid hrel; clear hrel
     clear CF0 CF1 CF2
     replace Rn := Lib.hid (Rn.out.below HR.out.old)
     replace HNn := Lib.hid (HNn.out.below HR.out.old)
     replace Ro := Lib.hid (Ro.out.below HR.out.old)
     replace HNo := Lib.hid (HNo.out.below HR.out.old)
     replace RES := Lib.hid (RES.out.below HR.out.old RES.out.lt)
     replace CF := Lib.hid (CF.out.below HR.out.old CF.out.lt)
     replace HW := Lib.hid (bel_trans HW.out HR.out.old)
     have CF0 := CF.out.c0
     have CF1 := CF.out.c1
     have CF2 := CF.out.c2
     have hmul := HR.out.mul
     have hk : m1 ≠ 0 → k ≤ 60 := fun h => val_k hmul h (by omega)
     have hm1m : m1 ≤ m := by rw [← hmul]; exact Nat.le_mul_of_pos_right _ (Nat.pow_pos (by decide))
     have hk00 := HR.out.k0
     have HK := Lib.hid (And.intro hmul (And.intro hk (And.intro hm1m hk00))); clear hmul hk00
     by_cases h0 : m1 = 0
     · have c3 : ((m1 : Int) != 0) = false := by simp [h0]
       have c5 : ((m1 : Int) == 0) = true := by simp [h0]
       have hk9 : k ≤ 60 := by have := HK.out.2.2.2 h0; omega
       have t1 : IntKind.i64.wrap (1 + (q : Int)) = 1 + (q : Int) := by rw [IntKind.wrap_i64]; omega
       obtain ⟨y, hy⟩ : ∃ y : Int, y = (y0 : Int) + k - q := ⟨_, rfl⟩
       have t2 : IntKind.i64.wrap ((y0 : Int) + 1 + k - (1 + (q : Int))) = y := by rw [IntKind.wrap_i64]; omega
       obtain ⟨A1, ca1, rfl, hca1, hra1⟩ := HR.out.num.row
       have RN := Lib.hid hra1; have KN := Lib.hid hca1; clear hra1 hca1
       clear hk hm1m
       have hb0 : b = 0 := by have h1 := HK.out.1; rw [h0, Nat.zero_mul] at h1; rw [HY.out.1] at h1; exact mant_zero.1 h1.symm
       have hy2 : y = -(q : Int) := by rw [hy, HK.out.2.2.2 h0, HY.out.2, hb0, show expo p 0 = 0 by unfold expo; rw [Nat.zero_div]]; omega
       subst hy2
       have t3 : (-(q : Int)) < 0 := by omega
       have t4 : IntKind.i64.wrap (q : Int) = (q : Int) := by rw [IntKind.wrap_i64]; omega
       have HB0 := Lib.hid (And.intro hb0 h0); clear hb0 h0 hy
       go_wp2_with fail
       refine (shift_up Ao co 1 q _ Ro.out (small_top (by decide))).mono ?_
       rintro e w5 ⟨ve, rfl, hne, hbl⟩
       replace Rn := hmR Rn hbl
       replace HNn := hmN HNn hbl
       replace Ro := hmR Ro hbl
       replace HNo := hmN HNo hbl
       replace RN := hmR RN hbl
       replace RES := hmB RES hbl
       replace CF := hmB CF hbl
       replace HW := hmW HW hbl; clear hbl
       clear CF0 CF1 CF2
       have CF0 := CF.out.c0
       have CF1 := CF.out.c1
       have CF2 := CF.out.c2
       have HNe := Lib.hid hne; clear hne
       obtain ⟨Ae, ce, rfl, hce, hre⟩ := HNe.out.row
       have Re := Lib.hid hre; have HCe := Lib.hid hce; clear hre hce
       go_wp2_with fail
       refine (of_one _).mono ?_
       rintro e w6 ⟨vp, rfl, hnp, hbl⟩
       replace Rn := hmR Rn hbl
       replace HNn := hmN HNn hbl
       replace Ro := hmR Ro hbl
       replace HNo := hmN HNo hbl
       replace RN := hmR RN hbl
       replace Re := hmR Re hbl
       replace HNe := hmN HNe hbl
       replace RES := hmB RES hbl
       replace CF := hmB CF hbl
       replace HW := hmW HW hbl; clear hbl
       clear CF0 CF1 CF2
       have CF0 := CF.out.c0
       have CF1 := CF.out.c1
       have CF2 := CF.out.c2
       have HNp := Lib.hid hnp; clear hnp
       obtain ⟨Ap, cp, rfl, hcp, hrp⟩ := HNp.out.row
       have Rp := Lib.hid hrp; have HCp := Lib.hid hcp; clear hrp hcp
       go_wp2_with fail
       refine (make_ok s A1 Ap ca1 cp m1 1 _ RN.out Rp.out KN.out HCp.out (small_top (by rw [HB0.out.2]; decide)) (small_top (by decide)) (by decide) (make_val (show m1 = LN p q b by rw [HB0.out.2, HB0.out.1]; exact (L_zero p q).1.symm) (show 1 = LD p q b by rw [HB0.out.1]; exact (L_zero p q).2.symm) HB.out.2)).mono ?_
       rintro e w7 ⟨vx, vy, rfl, hnx, hny, hbl⟩
       replace Rn := hmR Rn hbl
       replace HNn := hmN HNn hbl
       replace Ro := hmR Ro hbl
       replace HNo := hmN HNo hbl
       replace RN := hmR RN hbl
       replace Re := hmR Re hbl
       replace HNe := hmN HNe hbl
       replace Rp := hmR Rp hbl
       replace HNp := hmN HNp hbl
       replace RES := hmB RES hbl
       replace CF := hmB CF hbl
       replace HW := hmW HW hbl; clear hbl
       clear CF0 CF1 CF2
       have CF0 := CF.out.c0
       have CF1 := CF.out.c1
       have CF2 := CF.out.c2
       have HNx := Lib.hid hnx; clear hnx
       obtain ⟨Ax, cx, rfl, hcx, hrx⟩ := HNx.out.row
       have Rx := Lib.hid hrx; have HCx := Lib.hid hcx; clear hrx hcx
       have HNy := Lib.hid hny; clear hny
       obtain ⟨Ay, cy, rfl, hcy, hry⟩ := HNy.out.row
       have Ry := Lib.hid hry; have HCy := Lib.hid hcy; clear hry hcy
       have d0 := RES.out.c0
       have f0 := RES.out.frozen 0
       have d1 := RES.out.c1
       have f1 := RES.out.frozen 1
       have d2 := RES.out.c2
       have f2 := RES.out.frozen 2
       go_wp2
       exact bodyPost_ret (results_row_tmp rfl _ _ (w.heap.size) 25 _ (0, 0) _ _ rfl rfl (RES.out.put3 _ _ _) Tryz.underlying25 rfl (by kernel_rfl)) rfl (RetVal.fit (by rw [← (show m1 = LN p q b by rw [HB0.out.2, HB0.out.1]; exact (L_zero p q).1.symm)]; exact (small_top (by rw [HB0.out.2]; decide))) (by rw [← (show 1 = LD p q b by rw [HB0.out.1]; exact (L_zero p q).2.symm)]; exact (small_top (by decide))) ⟨_, _, rfl, (RdN.set3 RES.out (HNx.out) _ _ _), (RdN.set3 RES.out (HNy.out) _ _ _), (bel_set3 HW.out (Nat.le_refl _) _ _ _)⟩)
     · have c3 : ((m1 : Int) != 0) = true := by simp [h0]
       have c5 : ((m1 : Int) == 0) = false := by simp [h0]
       by_cases ho : m1 % 2 = 0
       · have c4 : (bits BinOp.and IntKind.u64 (m1 : Int) 1 == 0) = true := by rw [u64_and_one m1 (by omega), ho]; rfl
         have hk9 := hk h0
         obtain ⟨m2, hm2⟩ : ∃ x, x = m1 / 2 := ⟨_, rfl⟩
         have t1 : (m1 : Int) / 2 = (m2 : Int) := by omega
         have t2 : IntKind.i64.wrap ((y0 : Int) + 1 + k + 1) = (y0 : Int) + 1 + k + 1 := by rw [IntKind.wrap_i64]; omega
         have HN2 := Lib.hid (show m1 = 2 * m2 ∧ m1 ≠ 0 ∧ m2 < m1 ∧ m2 < 18446744073709551616 by omega); clear hm2 ho hk hk9
         go_wp2_with fail
         refine (of_any m2 _ HN2.out.2.2.2).mono ?_
         rintro e w7 ⟨v7, rfl, hn7, hbl⟩
         have H7 := Lib.hid (And.intro hn7 (bel_trans HR.out.old hbl)); clear hn7 hbl
         go_wp2
         go_roundw
         case rel => exact ⟨m2, k + 1, rfl, by first | rfl | (congr 1; omega), H7.out.2, by have h1 := HK.out.1; rw [HN2.out.1] at h1; rw [Nat.pow_succ, ← h1]; grind, H7.out.1, fun h => absurd h (by have := HN2.out; omega)⟩
         case measure => (have := HN2.out.2.2.1; simp [intOf]; omega)
       · have hodd : m1 % 2 = 1 := by omega
         have c4 : (bits BinOp.and IntKind.u64 (m1 : Int) 1 == 0) = false := by rw [u64_and_one m1 (by omega), hodd]; rfl
         have hk9 : k ≤ 60 := hk h0
         have t1 : IntKind.i64.wrap (1 + (q : Int)) = 1 + (q : Int) := by rw [IntKind.wrap_i64]; omega
         obtain ⟨y, hy⟩ : ∃ y : Int, y = (y0 : Int) + k - q := ⟨_, rfl⟩
         have t2 : IntKind.i64.wrap ((y0 : Int) + 1 + k - (1 + (q : Int))) = y := by rw [IntKind.wrap_i64]; omega
         obtain ⟨A1, ca1, rfl, hca1, hra1⟩ := HR.out.num.row
         have RN := Lib.hid hra1; have KN := Lib.hid hca1; clear hra1 hca1
         clear hk hm1m
         obtain ⟨L1, L2⟩ := L_odd (q := q) (HK.out.1.trans HY.out.1) hodd
         rw [← HY.out.2] at L1 L2
         have hmT : m1 < Top := Nat.lt_of_lt_of_le (show m1 < B32 ^ 2 by rw [B32_eq]; have := HK.out.2.2.1; omega) (Nat.pow_le_pow_right (by rw [B32_eq]; decide) (by decide))
         have HT := Lib.hid hmT; clear hmT hodd ho
         by_cases hneg : y < 0
         · obtain ⟨j, hj⟩ : ∃ j : Nat, y = -(j : Int) := ⟨(-y).toNat, by omega⟩
           have hj2 : y0 + k - q = 0 ∧ q - (y0 + k) = j := by omega
           rw [hj2.1, Nat.pow_zero, Nat.mul_one] at L1
           rw [hj2.2] at L2
           subst hj
           have t4 : IntKind.i64.wrap (j : Int) = (j : Int) := by rw [IntKind.wrap_i64]; omega
           have HL := Lib.hid (And.intro L1 L2); clear L1 L2 hj2 hy h0
           obtain ⟨P, hP⟩ : ∃ P, 1 * 2 ^ j = P := ⟨_, rfl⟩
           have HP := Lib.hid hP; clear hP
           by_cases hfit : P < Top
           · have HFIT := Lib.hid hfit; clear hfit
             go_wp2_with fail
             refine (shift_fit Ao co 1 j _ Ro.out (small_top (by decide)) HP.out HFIT.out).mono ?_
             rintro e w5 ⟨ve, rfl, hne, hbl⟩
             replace Rn := hmR Rn hbl
             replace HNn := hmN HNn hbl
             replace Ro := hmR Ro hbl
             replace HNo := hmN HNo hbl
             replace RN := hmR RN hbl
             replace RES := hmB RES hbl
             replace CF := hmB CF hbl
             replace HW := hmW HW hbl; clear hbl
             clear CF0 CF1 CF2
             have CF0 := CF.out.c0
             have CF1 := CF.out.c1
             have CF2 := CF.out.c2
             have HNe := Lib.hid hne; clear hne
             obtain ⟨Ae, ce, rfl, hce, hre⟩ := HNe.out.row
             have Re := Lib.hid hre; have HCe := Lib.hid hce; clear hre hce
             go_wp2_with fail
             refine (make_ok s A1 Ae ca1 ce m1 P _ RN.out Re.out KN.out HCe.out HT.out HFIT.out (by rw [← HP.out, Nat.one_mul]; exact Nat.ne_of_gt (Nat.pow_pos (by decide))) (make_val HL.out.1 (show P = LD p q b by rw [← HP.out, Nat.one_mul]; exact HL.out.2) HB.out.2)).mono ?_
             rintro e w6 ⟨vx, vy, rfl, hnx, hny, hbl⟩
             replace Rn := hmR Rn hbl
             replace HNn := hmN HNn hbl
             replace Ro := hmR Ro hbl
             replace HNo := hmN HNo hbl
             replace RN := hmR RN hbl
             replace Re := hmR Re hbl
             replace HNe := hmN HNe hbl
             replace RES := hmB RES hbl
             replace CF := hmB CF hbl
             replace HW := hmW HW hbl; clear hbl
             clear CF0 CF1 CF2
             have CF0 := CF.out.c0
             have CF1 := CF.out.c1
             have CF2 := CF.out.c2
             have HNx := Lib.hid hnx; clear hnx
             obtain ⟨Ax, cx, rfl, hcx, hrx⟩ := HNx.out.row
             have Rx := Lib.hid hrx; have HCx := Lib.hid hcx; clear hrx hcx
             have HNy := Lib.hid hny; clear hny
             obtain ⟨Ay, cy, rfl, hcy, hry⟩ := HNy.out.row
             have Ry := Lib.hid hry; have HCy := Lib.hid hcy; clear hry hcy
             have d0 := RES.out.c0
             have f0 := RES.out.frozen 0
             have d1 := RES.out.c1
             have f1 := RES.out.frozen 1
             have d2 := RES.out.c2
             have f2 := RES.out.frozen 2
             go_wp2
             exact bodyPost_ret (results_row_tmp rfl _ _ (w.heap.size) 25 _ (0, 0) _ _ rfl rfl (RES.out.put3 _ _ _) Tryz.underlying25 rfl (by kernel_rfl)) rfl (RetVal.fit (by rw [← HL.out.1]; exact HT.out) (by rw [← (show P = LD p q b by rw [← HP.out, Nat.one_mul]; exact HL.out.2)]; exact HFIT.out) ⟨_, _, rfl, (RdN.set3 RES.out (HNx.out) _ _ _), (RdN.set3 RES.out (HNy.out) _ _ _), (bel_set3 HW.out (Nat.le_refl _) _ _ _)⟩)
           · have HFIT := Lib.hid hfit; clear hfit
             go_wp2_with fail
             refine (shift_ovr Ao co 1 j _ Ro.out (small_top (by decide)) HP.out HFIT.out).mono ?_
             rintro e w5 ⟨ve, rfl, hne, hbl⟩
             replace Rn := hmR Rn hbl
             replace HNn := hmN HNn hbl
             replace Ro := hmR Ro hbl
             replace HNo := hmN HNo hbl
             replace RN := hmR RN hbl
             replace RES := hmB RES hbl
             replace CF := hmB CF hbl
             replace HW := hmW HW hbl; clear hbl
             clear CF0 CF1 CF2
             have CF0 := CF.out.c0
             have CF1 := CF.out.c1
             have CF2 := CF.out.c2
             have HNe := Lib.hid hne; clear hne
             obtain ⟨Ae, ce, rfl, hce, hre⟩ := HNe.out.row
             have Re := Lib.hid hre; have HCe := Lib.hid hce; clear hre hce
             have d0 := RES.out.c0
             have f0 := RES.out.frozen 0
             have d1 := RES.out.c1
             have f1 := RES.out.frozen 1
             have d2 := RES.out.c2
             have f2 := RES.out.frozen 2
             go_wp2
             exact bodyPost_ret (results_row_tmp rfl _ _ (w.heap.size) 25 _ (0, 0) _ _ rfl rfl (RES.out.put3 _ _ _) Tryz.underlying25 rfl (by kernel_rfl)) rfl (RetVal.over (by have h1 := HL.out.2; have h2 := HFIT.out; have h3 := HP.out; rw [Nat.one_mul] at h3; omega) ⟨_, _, rfl, (RdN.set3 RES.out (RdN.none0 _) _ _ _), (RdN.set3 RES.out (RdN.none0 _) _ _ _), (bel_set3 HW.out (Nat.le_refl _) _ _ _)⟩)
         · obtain ⟨j, hj⟩ : ∃ j : Nat, y = (j : Int) := ⟨y.toNat, by omega⟩
           have hj2 : y0 + k - q = j ∧ q - (y0 + k) = 0 := by omega
           rw [hj2.1] at L1
           rw [hj2.2, Nat.pow_zero] at L2
           subst hj
           have HL := Lib.hid (And.intro L1 L2); clear L1 L2 hj2 hy h0
           obtain ⟨P, hP⟩ : ∃ P, m1 * 2 ^ j = P := ⟨_, rfl⟩
           have HP := Lib.hid hP; clear hP
           by_cases hfit : P < Top
           · have HFIT := Lib.hid hfit; clear hfit
             go_wp2_with fail
             refine (shift_fit A1 ca1 m1 j _ RN.out HT.out HP.out HFIT.out).mono ?_
             rintro e w5 ⟨ve, rfl, hne, hbl⟩
             replace Rn := hmR Rn hbl
             replace HNn := hmN HNn hbl
             replace Ro := hmR Ro hbl
             replace HNo := hmN HNo hbl
             replace RN := hmR RN hbl
             replace RES := hmB RES hbl
             replace CF := hmB CF hbl
             replace HW := hmW HW hbl; clear hbl
             clear CF0 CF1 CF2
             have CF0 := CF.out.c0
             have CF1 := CF.out.c1
             have CF2 := CF.out.c2
             have HNe := Lib.hid hne; clear hne
             obtain ⟨Ae, ce, rfl, hce, hre⟩ := HNe.out.row
             have Re := Lib.hid hre; have HCe := Lib.hid hce; clear hre hce
             go_wp2_with fail
             refine (make_ok s Ae Ao ce co P 1 _ Re.out Ro.out HCe.out HCo.out HFIT.out (small_top (by decide)) (by decide) (make_val (show P = LN p q b by rw [← HP.out]; exact HL.out.1) (show 1 = LD p q b from HL.out.2) HB.out.2)).mono ?_
             rintro e w6 ⟨vx, vy, rfl, hnx, hny, hbl⟩
             replace Rn := hmR Rn hbl
             replace HNn := hmN HNn hbl
             replace Ro := hmR Ro hbl
             replace HNo := hmN HNo hbl
             replace RN := hmR RN hbl
             replace Re := hmR Re hbl
             replace HNe := hmN HNe hbl
             replace RES := hmB RES hbl
             replace CF := hmB CF hbl
             replace HW := hmW HW hbl; clear hbl
             clear CF0 CF1 CF2
             have CF0 := CF.out.c0
             have CF1 := CF.out.c1
             have CF2 := CF.out.c2
             have HNx := Lib.hid hnx; clear hnx
             obtain ⟨Ax, cx, rfl, hcx, hrx⟩ := HNx.out.row
             have Rx := Lib.hid hrx; have HCx := Lib.hid hcx; clear hrx hcx
             have HNy := Lib.hid hny; clear hny
             obtain ⟨Ay, cy, rfl, hcy, hry⟩ := HNy.out.row
             have Ry := Lib.hid hry; have HCy := Lib.hid hcy; clear hry hcy
             have d0 := RES.out.c0
             have f0 := RES.out.frozen 0
             have d1 := RES.out.c1
             have f1 := RES.out.frozen 1
             have d2 := RES.out.c2
             have f2 := RES.out.frozen 2
             go_wp2
             exact bodyPost_ret (results_row_tmp rfl _ _ (w.heap.size) 25 _ (0, 0) _ _ rfl rfl (RES.out.put3 _ _ _) Tryz.underlying25 rfl (by kernel_rfl)) rfl (RetVal.fit (by rw [← (show P = LN p q b by rw [← HP.out]; exact HL.out.1)]; exact HFIT.out) (by rw [← (show 1 = LD p q b from HL.out.2)]; exact (small_top (by decide))) ⟨_, _, rfl, (RdN.set3 RES.out (HNx.out) _ _ _), (RdN.set3 RES.out (HNy.out) _ _ _), (bel_set3 HW.out (Nat.le_refl _) _ _ _)⟩)
           · have HFIT := Lib.hid hfit; clear hfit
             go_wp2_with fail
             refine (shift_ovr A1 ca1 m1 j _ RN.out HT.out HP.out HFIT.out).mono ?_
             rintro e w5 ⟨ve, rfl, hne, hbl⟩
             replace Rn := hmR Rn hbl
             replace HNn := hmN HNn hbl
             replace Ro := hmR Ro hbl
             replace HNo := hmN HNo hbl
             replace RN := hmR RN hbl
             replace RES := hmB RES hbl
             replace CF := hmB CF hbl
             replace HW := hmW HW hbl; clear hbl
             clear CF0 CF1 CF2
             have CF0 := CF.out.c0
             have CF1 := CF.out.c1
             have CF2 := CF.out.c2
             have HNe := Lib.hid hne; clear hne
             obtain ⟨Ae, ce, rfl, hce, hre⟩ := HNe.out.row
             have Re := Lib.hid hre; have HCe := Lib.hid hce; clear hre hce
             have d0 := RES.out.c0
             have f0 := RES.out.frozen 0
             have d1 := RES.out.c1
             have f1 := RES.out.frozen 1
             have d2 := RES.out.c2
             have f2 := RES.out.frozen 2
             go_wp2
             exact bodyPost_ret (results_row_tmp rfl _ _ (w.heap.size) 25 _ (0, 0) _ _ rfl rfl (RES.out.put3 _ _ _) Tryz.underlying25 rfl (by kernel_rfl)) rfl (RetVal.over (by have h1 := HL.out.1; have h2 := HFIT.out; have h3 := HP.out; omega) ⟨_, _, rfl, (RdN.set3 RES.out (RdN.none0 _) _ _ _), (RdN.set3 RES.out (RdN.none0 _) _ _ _), (bel_set3 HW.out (Nat.le_refl _) _ _ _)⟩)

end
end Go.Proofs.YtmbbdjpnecjleaaGreat
