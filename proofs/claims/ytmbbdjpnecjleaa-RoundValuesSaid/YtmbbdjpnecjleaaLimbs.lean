/-
  Numbers as rows of limbs.
-/
import Derived.Test.YtmbbdjpnecjleaaRows
import Derived.Test.YtmbbdjpnecjleaaDigs
namespace Go.Proofs.Ytmbbdjpnecjleaa
set_option maxRecDepth 100000
open Go.RowKit

def B32 : Nat := 4294967296
theorem B32_two : 2 ≤ B32 := by decide
theorem B32_eq : B32 = 4294967296 := rfl
/-- The limbs of a number. -/
def limbs (n : Nat) : List Nat := digs B32 n
def lval (xs : List Nat) : Nat := val B32 xs
/-- Each is a limb. -/
def Lim (xs : List Nat) : Prop := ∀ x ∈ xs, x < B32
theorem lval_limbs (n : Nat) : lval (limbs n) = n := val_digs B32_two n
theorem limbs_lim (n : Nat) : Lim (limbs n) := digs_lt B32_two n
theorem limbs_zero : limbs 0 = [] := rfl
theorem Lim.get {xs : List Nat} (h : Lim xs) (k : Nat) : xs.getD k 0 < 4294967296 := by
  by_cases hk : k < xs.length
  · rw [List.getD_eq_getElem?_getD, List.getElem?_eq_getElem hk]
    exact h _ (List.getElem_mem hk)
  · rw [List.getD_eq_getElem?_getD, List.getElem?_eq_none (by omega)]
    decide
theorem limbs_get (n k : Nat) : (limbs n).getD k 0 = n / B32 ^ k % B32 := digs_get B32_two n k
theorem limbs_len {n k : Nat} : (limbs n).length ≤ k ↔ n < B32 ^ k := digs_len_le B32_two

/-- A row of limbs. -/
def RdL (w : World) (A : Option Addr) (xs : List Nat) : Prop := Rd w A xs.length (fun k => .int .u32 (xs.getD k 0 : Nat))
theorem RdL.below {w w' : World} {A : Option Addr} {xs : List Nat} (h : RdL w A xs) (hb : Below w.heap.size w w') : RdL w' A xs := Rd.below h hb
theorem RdL.at_ {w : World} {A : Option Addr} {xs : List Nat} (h : RdL w A xs) {k : Nat} (hk : k < xs.length) :
    ∃ b off, A = some ⟨b, off, none⟩ ∧ b < w.heap.size ∧ w.cell? ⟨b, off + k, none⟩ = some (.int .u32 (xs.getD k 0 : Nat)) := by
  obtain ⟨b, off, e, hb, hc⟩ := h (by omega)
  exact ⟨b, off, e, hb, hc k hk⟩
theorem RdL.take {w : World} {A : Option Addr} {xs : List Nat} (h : RdL w A xs) (m : Nat) : RdL w A (xs.take m) := by
  refine Rd.congr (Rd.take h (m := (xs.take m).length) (List.length_take_le' ..)) fun k hk => ?_
  have : k < m := by rw [List.length_take] at hk; omega
  simp [this]
theorem RdL.nil {w : World} {A : Option Addr} : RdL w A [] := Rd.nil
theorem RdL.drewN {w : World} {A : Option Addr} {xs : List Nat} (h : RdL w A xs) (n : Nat) : RdL (w.drewN n) A xs := h

/-- A slice that is a number. -/
structure RdN (w : World) (v : Value) (n : Nat) : Prop where
  row : ∃ A cap, v = .slice A (limbs n).length cap ∧ (limbs n).length ≤ cap ∧ RdL w A (limbs n)
theorem RdN.below {w w' : World} {v : Value} {n : Nat} (h : RdN w v n) (hb : Below w.heap.size w w') : RdN w' v n := by
  obtain ⟨A, cap, e, hc, hr⟩ := h.row
  exact ⟨A, cap, e, hc, hr.below hb⟩
theorem RdN.zero {w : World} {A : Option Addr} {cap : Nat} : RdN w (.slice A 0 cap) 0 := ⟨A, cap, rfl, Nat.zero_le _, RdL.nil⟩

/-- May the number be? -/
def rightL (xs : List Nat) : Bool := decide (xs.length ≤ 16) && (decide (xs.length = 0) || decide (xs.getD (xs.length - 1) 0 ≠ 0))
theorem getD_last {xs : List Nat} (h : xs ≠ []) : xs.getD (xs.length - 1) 0 = xs.getLast h := by
  rw [List.getD_eq_getElem?_getD, List.getLast_eq_getElem, List.getElem?_eq_getElem]
  rfl
theorem limbs_of {xs : List Nat} (hx : Lim xs) (h : xs.length = 0 ∨ xs.getD (xs.length - 1) 0 ≠ 0) : limbs (lval xs) = xs :=
  digs_val B32_two xs hx fun hne => by
    rcases h with h | h
    · exact absurd (List.length_eq_zero_iff.1 h) hne
    · rwa [getD_last hne] at h
theorem lval_lt {xs : List Nat} (hx : Lim xs) : lval xs < B32 ^ xs.length := val_lt xs hx
/-- 2^512. -/
def Top : Nat := B32 ^ 16
theorem rightL_iff {xs : List Nat} (hx : Lim xs) : rightL xs = true ↔ limbs (lval xs) = xs ∧ lval xs < Top := by
  unfold rightL
  rw [Bool.and_eq_true, Bool.or_eq_true, decide_eq_true_eq, decide_eq_true_eq, decide_eq_true_eq]
  constructor
  · rintro ⟨h1, h2⟩
    refine ⟨limbs_of hx h2, Nat.lt_of_lt_of_le (lval_lt hx) (Nat.pow_le_pow_right (by decide) h1)⟩
  · rintro ⟨h1, h2⟩
    have h3 : (limbs (lval xs)).length ≤ 16 := limbs_len.2 h2
    rw [h1] at h3
    refine ⟨h3, ?_⟩
    by_cases h0 : xs.length = 0
    · exact .inl h0
    · refine .inr fun hz => ?_
      have hlt : lval xs < B32 ^ (xs.length - 1) := by
        have hne : xs ≠ [] := fun e => h0 (by rw [e]; rfl)
        have e : xs = xs.take (xs.length - 1) ++ [0] := by
          rw [getD_last hne] at hz
          rw [← hz, ← List.dropLast_eq_take, List.dropLast_concat_getLast hne]
        rw [e]
        show val B32 _ < _
        rw [val_snoc, Nat.mul_zero, Nat.add_zero]
        have h4 := val_lt (b := B32) (xs.take (xs.length - 1)) fun x h => hx x (List.mem_of_mem_take h)
        rw [List.length_take, Nat.min_eq_left (by omega)] at h4
        rw [← e]
        exact h4
      have := limbs_len.2 hlt
      rw [h1] at this
      omega
theorem rightL_limbs {n : Nat} (h : n < Top) : rightL (limbs n) = true := (rightL_iff (limbs_lim n)).2 ⟨by rw [lval_limbs], by rw [lval_limbs]; exact h⟩
theorem limbs_len16 {n : Nat} (h : n < Top) : (limbs n).length ≤ 16 := limbs_len.2 h
end Go.Proofs.Ytmbbdjpnecjleaa
