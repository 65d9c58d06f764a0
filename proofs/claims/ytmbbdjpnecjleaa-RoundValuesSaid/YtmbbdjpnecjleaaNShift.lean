/-
  size, Bits, Shift, walked; Div's refusals.
-/
import Derived.Test.YtmbbdjpnecjleaaNDiv
import Derived.Test.YtmbbdjpnecjleaaShelf
import Derived.Lib.ItoaNum
namespace Go.Proofs.Ytmbbdjpnecjleaa
set_option maxRecDepth 100000
open Go.RowKit

set_option maxHeartbeats 400000 in
theorem div_wrong (A A' : Option Addr) (cap cap' : Nat) (xs ys : List Nat) (w : World) (h : RdL w A xs) (h' : RdL w A' ys) (hl : xs.length ≤ 4611686018427387900) (hl' : ys.length ≤ 4611686018427387900) (hr : (rightL xs && rightL ys) = false) :
    Calls Try.prog 72 #[.slice A xs.length cap, .slice A' ys.length cap'] w (RetD 0 0 1 w) := by
  have H := Lib.hid h; clear h
  have H' := Lib.hid h'; clear h'
  go_enter Try.func72, Try.ntmps72
  go_wp2_with fail
  refine (both_any A A' cap cap' xs ys _ H.out H'.out hl hl').mono ?_
  rintro e w1 ⟨rfl, n, rfl⟩
  rw [hr]
  go_wp2
  go_ret3
  exact ⟨_, _, rfl, RdN.zero, RdN.zero, bel_drewN (bel_refl _) _⟩
set_option maxHeartbeats 400000 in
theorem div_zero (A A' : Option Addr) (cap cap' : Nat) (xs : List Nat) (w : World) (h : RdL w A xs) (hl : xs.length ≤ 4611686018427387900) (hr : rightL xs = true) :
    Calls Try.prog 72 #[.slice A xs.length cap, .slice A' 0 cap'] w (RetD 0 0 4 w) := by
  have H := Lib.hid h; clear h
  go_enter Try.func72, Try.ntmps72
  go_wp2_with fail
  refine (both_any A A' cap cap' xs [] _ H.out RdL.nil hl (by simp)).mono ?_
  rintro e w1 ⟨rfl, n, rfl⟩
  rw [hr, show rightL [] = true from rfl]
  go_wp2
  go_ret3
  exact ⟨_, _, rfl, RdN.zero, RdN.zero, bel_drewN (bel_refl _) _⟩

/-- How many bits a number has. -/
def nbits (n : Nat) : Nat := if n = 0 then 0 else n.log2 + 1
theorem nbits_zero : nbits 0 = 0 := rfl
theorem nbits_lt (n : Nat) : n < 2 ^ nbits n := by
  unfold nbits
  by_cases h : n = 0
  · subst h; decide
  · rw [if_neg h]; exact Nat.lt_log2_self
theorem nbits_le {n : Nat} (h : n ≠ 0) : 2 ^ (nbits n - 1) ≤ n := by
  unfold nbits
  rw [if_neg h]
  exact Nat.log2_self_le h
theorem nbits_pos {n : Nat} (h : n ≠ 0) : 0 < nbits n := by unfold nbits; rw [if_neg h]; omega
theorem nbits_of {n k : Nat} (h0 : 0 < k) (h1 : 2 ^ (k - 1) ≤ n) (h2 : n < 2 ^ k) : nbits n = k := by
  have hn : n ≠ 0 := fun e => by rw [e] at h1; have := Nat.pow_pos (n := k - 1) (show 0 < 2 by decide); omega
  have a1 := nbits_lt n
  have a2 := nbits_le hn
  have a3 := nbits_pos hn
  have c1 : k - 1 < nbits n := (Nat.pow_lt_pow_iff_right (a := 2) (by decide)).1 (Nat.lt_of_le_of_lt h1 a1)
  have c2 : nbits n - 1 < k := (Nat.pow_lt_pow_iff_right (a := 2) (by decide)).1 (Nat.lt_of_le_of_lt a2 h2)
  omega
theorem nbits_le_of {n k : Nat} (h : n < 2 ^ k) : nbits n ≤ k := by
  by_cases hn : n = 0
  · subst hn; exact Nat.zero_le _
  · have c2 : nbits n - 1 < k := (Nat.pow_lt_pow_iff_right (a := 2) (by decide)).1 (Nat.lt_of_le_of_lt (nbits_le hn) h)
    omega
theorem bitLen_nbits {x : Nat} (h : x < 4294967296) : Go.Lib.bitLen x = nbits x := by
  by_cases h0 : x = 0
  · subst h0; rfl
  · obtain ⟨a, b, c⟩ := Go.Lib.bitLenAux_bounds 64 x (Nat.lt_of_lt_of_le h (by decide)) h0
    exact (nbits_of a b c).symm

/-- What size tells of limbs. -/
def sizeL (xs : List Nat) : Nat := if xs.length = 0 then 0 else 32 * (xs.length - 1) + nbits (xs.getD (xs.length - 1) 0)
theorem sizeL_limbs (n : Nat) : sizeL (limbs n) = nbits n := by
  unfold sizeL
  by_cases h0 : n = 0
  · subst h0; rfl
  · have hl : 0 < (limbs n).length := digs_len_pos B32_two h0
    rw [if_neg (by omega)]
    have hk : (limbs n).length = (limbs n).length - 1 + 1 := by omega
    have hlow : ¬ n < B32 ^ ((limbs n).length - 1) := fun h => by have := limbs_len.2 h; omega
    have hhigh : n < B32 ^ ((limbs n).length - 1 + 1) := by rw [← hk]; exact limbs_len.1 (Nat.le_refl _)
    generalize (limbs n).length - 1 = m at hlow hhigh
    rw [limbs_get]
    have hP : 0 < B32 ^ m := Nat.pow_pos (by decide)
    have ht : n / B32 ^ m % B32 = n / B32 ^ m := Nat.mod_eq_of_lt (by
      rw [Nat.div_lt_iff_lt_mul hP, Nat.mul_comm, ← Nat.pow_succ]; exact hhigh)
    rw [ht]
    have ht0 : n / B32 ^ m ≠ 0 := by
      have := Nat.div_pos (Nat.le_of_not_lt hlow) hP
      omega
    have b1 := nbits_lt (n / B32 ^ m)
    have b2 := nbits_le ht0
    have b3 := nbits_pos ht0
    refine (nbits_of (by omega) ?_ ?_).symm
    · rw [show 32 * m + nbits (n / B32 ^ m) - 1 = 32 * m + (nbits (n / B32 ^ m) - 1) by omega, Nat.pow_add, ← B32_pow]
      calc B32 ^ m * 2 ^ (nbits (n / B32 ^ m) - 1) ≤ B32 ^ m * (n / B32 ^ m) := Nat.mul_le_mul_left _ b2
        _ ≤ n := Nat.mul_div_le _ _
    · rw [Nat.pow_add, ← B32_pow, Nat.mul_comm, ← Nat.div_lt_iff_lt_mul hP]
      exact b1

set_option maxHeartbeats 400000 in
theorem size_any (A : Option Addr) (cap : Nat) (xs : List Nat) (w : World) (h : RdL w A xs) (hx : Lim xs) (hl : xs.length ≤ 18) :
    Calls Try.prog 97 #[.slice A xs.length cap] w (RetID (sizeL xs) w) := by
  unfold sizeL
  by_cases h0 : xs.length = 0
  · have g0 : ((xs.length : Int) == 0) = true := by rw [h0]; rfl
    rw [if_pos h0]
    go_enter Try.func97, Try.ntmps97
    go_wp2
    go_ret
    exact ⟨rfl, 0, rfl⟩
  · have g0 : ((xs.length : Int) == 0) = false := beq_eq_false_iff_ne.2 (by omega)
    rw [if_neg h0]
    obtain ⟨b, off, rfl, hb, hc⟩ := h.at_ (k := xs.length - 1) (by omega)
    have hx1 := hx.get (xs.length - 1)
    obtain ⟨x, hxe⟩ : ∃ x, x = xs.getD (xs.length - 1) 0 := ⟨_, rfl⟩
    rw [← hxe] at hc hx1 ⊢
    have HX := Lib.hid hxe; clear hxe
    have H := Lib.hid h; clear h
    obtain ⟨m, hm⟩ : ∃ m, m = xs.length - 1 := ⟨_, rfl⟩
    rw [← hm] at hc ⊢
    have g3 : (xs.length : Int) - 1 = (m : Int) := by omega
    have g4 : (m : Int) < (xs.length : Int) := by omega
    have hb32 : nbits x ≤ 32 := nbits_le_of hx1
    obtain ⟨bl, hbl⟩ : ∃ bl, bl = nbits x := ⟨_, rfl⟩
    rw [← hbl] at hb32 ⊢
    have HBL := Lib.hid hbl; clear hbl
    have s1 : IntKind.i64.wrap (32 * (m : Int)) = ((32 * m : Nat) : Int) := by rw [IntKind.wrap_i64]; omega
    have s2 : IntKind.i64.wrap (((32 * m : Nat) : Int) + (bl : Int)) = ((32 * m + bl : Nat) : Int) := by rw [IntKind.wrap_i64]; omega
    have HX1 := Lib.hid hx1; clear hx1
    have HM := Lib.hid hm; clear hm
    go_enter Try.func97, Try.ntmps97
    go_wp2_with (go_at_call 104; (with_reducible refine (Try.bits_Len32 _ _ (by omega) (by have := HX1.out; omega)).mono ?_); rintro e w' ⟨rfl, rfl⟩; rw [Int.toNat_natCast, bitLen_nbits HX1.out, ← HBL.out])
    go_ret
    exact ⟨by go_num, 0, rfl⟩

set_option maxHeartbeats 400000 in
theorem bits_any (A : Option Addr) (cap : Nat) (xs : List Nat) (w : World) (h : RdL w A xs) (hx : Lim xs) (hl : xs.length ≤ 18) :
    Calls Try.prog 79 #[.slice A xs.length cap] w (if rightL xs = true then RetIE (nbits (lval xs)) 0 w else RetIE 0 1 w) := by
  have H := Lib.hid h; clear h
  have HX := Lib.hid hx; clear hx
  cases hr : rightL xs
  · rw [if_neg (by simp)]
    go_enter Try.func79, Try.ntmps79
    go_wp2_with fail
    refine (right_any A cap xs _ H.out (by omega)).mono ?_
    rintro e w1 ⟨rfl, n, rfl⟩
    rw [hr]
    go_wp2
    go_ret2
    exact ⟨rfl, n, rfl⟩
  · rw [if_pos rfl]
    have ea := Lib.hid ((rightL_iff HX.out).1 hr).1
    go_enter Try.func79, Try.ntmps79
    go_wp2_with fail
    refine (right_any A cap xs _ H.out (by omega)).mono ?_
    rintro e w1 ⟨rfl, n, rfl⟩
    rw [hr]
    go_wp2_with fail
    refine (size_any A cap xs _ (H.out.drewN n) HX.out hl).mono ?_
    rintro e w1 ⟨rfl, m, rfl⟩
    have es : sizeL xs = nbits (lval xs) := by
      have := sizeL_limbs (lval xs)
      rwa [ea.out] at this
    rw [es]
    go_wp2
    go_ret2
    exact ⟨rfl, _, rfl⟩
end Go.Proofs.Ytmbbdjpnecjleaa
