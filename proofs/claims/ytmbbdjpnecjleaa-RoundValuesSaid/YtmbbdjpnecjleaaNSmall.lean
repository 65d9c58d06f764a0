/-
  small, up, Of, walked.
-/
import Derived.Test.YtmbbdjpnecjleaaNSub
namespace Go.Proofs.Ytmbbdjpnecjleaa
set_option maxRecDepth 100000
open Go.RowKit

/-- How far the number times the base is. -/
structure SmRel (w wr : World) (xs : List Nat) (b d : Nat) (v : Value) (k c : Nat) (out : List Nat) : Prop where
  row : OutL w wr v out
  len : out.length = k
  carry : c < B32
  sum : lval out + B32 ^ k * (c + b * lval (xs.drop k)) = b * lval xs + d

theorem SmRel.step {w wr w' : World} {xs out : List Nat} {b d : Nat} {v v' : Value} {k c x : Nat} (h : SmRel w wr xs b d v k c out) (hx : x = xs.getD k 0)
    (hc' : (c + x * b) / B32 < B32) (ho : OutL w w' v' (out ++ [(c + x * b) % B32])) : SmRel w w' xs b d v' (k + 1) ((c + x * b) / B32) (out ++ [(c + x * b) % B32]) := by
  refine ⟨ho, by rw [List.length_append, h.len]; rfl, hc', ?_⟩
  rw [lval_snoc, h.len, Nat.add_assoc, Nat.pow_succ, carry_step, ← h.sum, lval_drop xs k, ← hx, Nat.mul_add b, Nat.mul_comm b x, Nat.mul_left_comm b B32, Nat.add_assoc c]
theorem SmRel.done {w wr : World} {xs out : List Nat} {b d : Nat} {v : Value} {k c : Nat} (h : SmRel w wr xs b d v k c out) (hk : k = xs.length) : lval (out ++ [c]) = b * lval xs + d := by
  rw [lval_snoc, h.len, ← h.sum, hk, List.drop_length]
  simp [lval, val]

theorem small_alg {c x b : Nat} (hc : c < 4294967296) (hx : x < 4294967296) (hb : b < 4294967296) : c + x * b < 18446744073709551616 := by
  have h1 : x * b ≤ 4294967295 * b := Nat.mul_le_mul_right _ (by omega)
  omega

end Go.Proofs.Ytmbbdjpnecjleaa
