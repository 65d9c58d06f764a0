/-
  Bits, powers and shifts, for the law NatParts.
-/
import Derived.Test.YtmbbdjpnecjleaaNLaw3
namespace Go.Proofs.Ytmbbdjpnecjleaa
set_option maxRecDepth 100000
open Go.RowKit

theorem bits_is (A : Option Addr) (cap a nb : Nat) (w : World) (h : RdL w A (limbs a)) (ha : a < Top) (hn : nbits a = nb) :
    Calls Try.prog 79 #[.slice A (limbs a).length cap] w (RetIEB nb 0 w) := by
  subst hn
  exact bits_num A cap a w h ha
theorem bits_none (A : Option Addr) (cap a : Nat) (w : World) (h : RdL w A (limbs a)) (ha : a < Top) (hn : a = 0) :
    Calls Try.prog 79 #[.slice A (limbs a).length cap] w (RetIEB 0 0 w) := bits_is A cap a 0 w h ha (by rw [hn]; rfl)
theorem nbits_top {a : Nat} (h : a < Top) : nbits a ≤ 512 := Nat.le_trans (nbits_le_of (k := E512) (by rw [← top_pow]; exact h)) (by rw [E512_eq]; exact Nat.le_refl _)
theorem shift_zero (A : Option Addr) (cap a : Nat) (i : Int) (w : World) (h : RdL w A (limbs a)) (ha : a < Top) (hn : a = 0) :
    Calls Try.prog 76 #[.slice A (limbs a).length cap, .int .i64 i] w (RetNE 0 0 w) := by
  have := shift_right A cap a i w h ha
  rw [shN_none (.inl hn)] at this
  exact this
theorem shift_far (A : Option Addr) (cap a : Nat) (i : Int) (w : World) (h : RdL w A (limbs a)) (ha : a < Top) (h0 : a ≠ 0) (hi : 600 < i) :
    Calls Try.prog 76 #[.slice A (limbs a).length cap, .int .i64 i] w (RetNE 0 2 w) := by
  have hs := shift_right A cap a i w h ha
  have ho := shN_over h0 (b := i) (by omega) (by omega)
  exact hs.mono fun _ _ h => h.of (fit_over ho).1 (fit_over ho).2
theorem shift_gone (A : Option Addr) (cap a : Nat) (i : Int) (w : World) (h : RdL w A (limbs a)) (ha : a < Top) (hi : i < -600) :
    Calls Try.prog 76 #[.slice A (limbs a).length cap, .int .i64 i] w (RetNE 0 0 w) := by
  have hs := shift_right A cap a i w h ha
  have hb := nbits_top ha
  rw [shN_none (.inr ⟨by omega, by omega⟩)] at hs
  exact hs
theorem power_is (k p : Nat) (w : World) (h : 2 ^ k = p) (hk : k ≤ 1000) : Calls Try.prog 74 #[.int .i64 k] w (RetS (dec p) w) := by
  subst h
  exact refPower_any k w (Nat.le_trans hk (by decide))
theorem power_len {k p : Nat} (h : 2 ^ k = p) (hk : k ≤ 700) : (decL p).length ≤ 701 := by
  subst h
  refine Nat.le_trans (decL_len_le (k := k + 1) ?_ (by omega)) (by omega)
  exact Nat.lt_of_le_of_lt (Nat.pow_le_pow_left (by decide) k) (Nat.pow_lt_pow_right (by decide) (Nat.lt_succ_self k))
/-- A number's bits, between two powers of two. -/
theorem bits_powers {a : Nat} (ha : a < Top) (h0 : a ≠ 0) : ∃ k nb p1 p2 : Nat, nbits a = nb ∧ nb = k + 1 ∧ nb ≤ 512 ∧ 2 ^ k = p1 ∧ 2 ^ nb = p2 ∧ p1 ≤ a ∧ a < p2 := by
  refine ⟨nbits a - 1, nbits a, _, _, rfl, ?_, nbits_top ha, rfl, rfl, nbits_le h0, nbits_lt a⟩
  have := nbits_pos h0
  omega
/-- A quotient and what is left, in their cells. -/
def DAt (w : World) (g q r : Nat) : Prop := Blk w g 62 #[.string (dec q), .string (dec r)]
theorem DAt.new (w : World) (q r : Nat) : DAt (w.alloc (.cells #[.string (dec q), .string (dec r)] 62)) w.heap.size q r := Blk.new _ _ _
theorem DAt.bel (w : World) (q r : Nat) : Below w.heap.size w (w.alloc (.cells #[.string (dec q), .string (dec r)] 62)) := bel_alloc (bel_refl _) _
theorem DAt.below {w w' : World} {g q r : Nat} (h : DAt w g q r) (hb : Below w.heap.size w w') : DAt w' g q r := Blk.below h hb (Blk.lt h)
theorem DAt.q {w : World} {g q r : Nat} (h : DAt w g q r) : w.cell? ⟨g, 0, none⟩ = some (.string (dec q)) := by rw [Blk.cell h]; rfl
theorem DAt.r {w : World} {g q r : Nat} (h : DAt w g q r) : w.cell? ⟨g, 1, none⟩ = some (.string (dec r)) := by rw [Blk.cell h]; rfl
theorem field_q (s t : ByteArray) (W : World) : (Instr.field 62 (.agg #[.string s, .string t]) 0).run Try.prog W = .ok (.string s) W := by kernel_rfl
end Go.Proofs.Ytmbbdjpnecjleaa
