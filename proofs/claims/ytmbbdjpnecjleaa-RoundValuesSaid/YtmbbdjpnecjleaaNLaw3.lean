/-
  Shifts, for the laws of layer 1.
-/
import Derived.Test.YtmbbdjpnecjleaaNLaw2
namespace Go.Proofs.Ytmbbdjpnecjleaa
set_option maxRecDepth 100000
open Go.RowKit

theorem two_top {m : Nat} (h : m < 512) : 2 ^ m < Top := by
  rw [top_pow]
  exact Nat.pow_lt_pow_right (by decide) (by rw [E512_eq]; exact h)
theorem shN_up (a m : Nat) : shN a (m : Int) = a * 2 ^ m := by unfold shN; rw [if_pos (by omega), Int.toNat_natCast]
theorem shN_down (a m : Nat) : shN a (-(m : Int)) = a / 2 ^ m := by
  unfold shN
  split
  · have : m = 0 := by omega
    subst this
    simp
  · rw [Int.neg_neg, Int.toNat_natCast]
theorem shift_up (A : Option Addr) (cap a m : Nat) (w : World) (h : RdL w A (limbs a)) (ha : a < Top) :
    Calls Try.prog 76 #[.slice A (limbs a).length cap, .int .i64 m] w (RetNE (fitN (a * 2 ^ m)) (fitC (a * 2 ^ m)) w) := by
  have := shift_right A cap a m w h ha
  rwa [shN_up] at this
theorem shift_upS (A : Option Addr) (cap a m c : Nat) (w : World) (h : RdL w A (limbs a)) (ha : a < Top) (hc : a * 2 ^ m = c) (hc' : c < Top) :
    Calls Try.prog 76 #[.slice A (limbs a).length cap, .int .i64 m] w (RetNE c 0 w) := by
  subst hc
  exact (shift_up A cap a m w h ha).mono fun _ _ h => h.of (fit_small hc').1 (fit_small hc').2
theorem shift_downS (A : Option Addr) (cap a m c : Nat) (w : World) (h : RdL w A (limbs a)) (ha : a < Top) (hc : a / 2 ^ m = c) :
    Calls Try.prog 76 #[.slice A (limbs a).length cap, .int .i64 (-(m : Int))] w (RetNE c 0 w) := by
  subst hc
  have := shift_right A cap a (-(m : Int)) w h ha
  rw [shN_down] at this
  have hd := fit_small (lt_top (Nat.div_le_self a (2 ^ m)) ha)
  exact this.mono fun _ _ h => h.of hd.1 hd.2
theorem shift_one (A : Option Addr) (cap a : Nat) (w : World) (h : RdL w A (limbs a)) (ha : a < Top) :
    Calls Try.prog 76 #[.slice A (limbs a).length cap, .int .i64 1] w (RetNE (fitN (a + a)) (fitC (a + a)) w) := by
  have := shift_up A cap a 1 w h ha
  rwa [Nat.pow_one, Nat.mul_two] at this
theorem shift_bad (A : Option Addr) (cap : Nat) (xs : List Nat) (b : Int) (w : World) (h : RdL w A xs) (hx : Lim xs) (hl : xs.length ≤ 18) (hr : rightL xs = false) :
    Calls Try.prog 76 #[.slice A xs.length cap, .int .i64 b] w (RetNE 0 1 w) := shift_wrong A cap xs b w h hx hl hr
theorem mul_pow_div (a m : Nat) : a * 2 ^ m / 2 ^ m = a := Nat.mul_div_cancel a (Nat.pow_pos (by decide))
theorem div_pow_top {a : Nat} (m : Nat) (h : a < Top) : a / 2 ^ m * 2 ^ m < Top := mul_div_top h
theorem pow_ne (m : Nat) : 2 ^ m ≠ 0 := Nat.pos_iff_ne_zero.1 (Nat.pow_pos (by decide))
theorem fit_over {N : Nat} (h : ¬ N < Top) : fitN N = 0 ∧ fitC N = 2 := by unfold fitN fitC; rw [if_neg h, if_neg h]; exact ⟨rfl, rfl⟩
/-- by, turned into one from 0 to 299. -/
theorem by300 (i : Int) : ∃ (t : Int) (m : Nat), i.tmod 300 = t ∧ IntKind.i64.wrap t = t ∧ IntKind.i64.wrap (t + 300) = t + 300 ∧ (t + 300).tmod 300 = (m : Int) ∧ (t + 300) % 300 = (m : Int) ∧ IntKind.i64.wrap (m : Int) = (m : Int) ∧ IntKind.i64.wrap (-(m : Int)) = -(m : Int) ∧ m < 300 := by
  have h1 : -300 < i.tmod 300 := by have := Int.lt_tmod_of_pos i (show (0 : Int) < 300 by decide); omega
  have h2 : i.tmod 300 < 300 := Int.tmod_lt_of_pos i (by decide)
  have h3 : (i.tmod 300 + 300).tmod 300 = (i.tmod 300 + 300) % 300 := Int.tmod_eq_emod_of_nonneg (by omega)
  refine ⟨i.tmod 300, ((i.tmod 300 + 300) % 300).toNat, rfl, ?_, ?_, ?_, ?_, ?_, ?_, ?_⟩
  · rw [IntKind.wrap_i64]; omega
  · rw [IntKind.wrap_i64]; omega
  · rw [h3]; omega
  · omega
  · rw [IntKind.wrap_i64]; omega
  · rw [IntKind.wrap_i64]; omega
  · omega
end Go.Proofs.Ytmbbdjpnecjleaa
