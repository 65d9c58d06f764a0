/-
  Layer 5, plain: bytes, runs, tokens. No program.
-/
import Derived.Test.YtkaafakodeeidaaDoorLeaf
namespace Go.Proofs.YtkaafakodeeidaaDoor
open Go.RowKit

def digB (c : Nat) : Bool := decide (48 ≤ c) && decide (c ≤ 57)
def wordB (c : Nat) : Bool := letter (c : Int) || digB c
/-- Where a run of what is so ends. -/
def run (p : Nat → Bool) (m k : Nat) : Nat := if h : k < m ∧ p k = true then run p m (k + 1) else k
termination_by m - k
decreasing_by omega
theorem run_step {p : Nat → Bool} {m k : Nat} (h : k < m) (hp : p k = true) : run p m k = run p m (k + 1) := by
  rw [run, dif_pos ⟨h, hp⟩]
theorem run_out {p : Nat → Bool} {m k : Nat} (h : ¬ k < m) : run p m k = k := by
  rw [run, dif_neg (fun x => h x.1)]
theorem run_not {p : Nat → Bool} {m k : Nat} (h : p k = false) : run p m k = k := by
  rw [run, dif_neg (fun x => by rw [h] at x; exact absurd x.2 (by decide))]
theorem run_spec (p : Nat → Bool) (m : Nat) : ∀ d k, m - k = d → k ≤ run p m k ∧ (k ≤ m → run p m k ≤ m) ∧ (∀ j, k ≤ j → j < run p m k → p j = true) ∧ (run p m k < m → p (run p m k) = false) := by
  intro d
  induction d with
  | zero =>
    intro k hd
    rw [run_out (by omega)]
    exact ⟨Nat.le_refl _, fun h => h, fun j h1 h2 => by omega, fun h => by omega⟩
  | succ d ih =>
    intro k hd
    cases hp : p k
    · rw [run_not hp]
      exact ⟨Nat.le_refl _, fun h => h, fun j h1 h2 => by omega, fun _ => hp⟩
    · rw [run_step (by omega) hp]
      obtain ⟨a, b, c, e⟩ := ih (k + 1) (by omega)
      refine ⟨by omega, fun h => b (by omega), fun j h1 h2 => ?_, e⟩
      rcases Nat.lt_or_eq_of_le h1 with h | rfl
      · exact c j h h2
      · exact hp
theorem run_ge (p : Nat → Bool) (m k : Nat) : k ≤ run p m k := (run_spec p m _ k rfl).1
theorem run_le (p : Nat → Bool) {m k : Nat} (h : k ≤ m) : run p m k ≤ m := (run_spec p m _ k rfl).2.1 h
theorem run_congr {p q : Nat → Bool} {m : Nat} : ∀ d k, m - k = d → (∀ j, k ≤ j → j < m → p j = q j) → run p m k = run q m k := by
  intro d
  induction d with
  | zero => intro k hd _; rw [run_out (by omega), run_out (by omega)]
  | succ d ih =>
    intro k hd h
    have h0 := h k (Nat.le_refl _) (by omega)
    cases hp : p k
    · rw [run_not hp, run_not (p := q) (by rw [← h0]; exact hp)]
    · rw [run_step (by omega) hp, run_step (p := q) (by omega) (by rw [← h0]; exact hp)]
      exact ih (k + 1) (by omega) fun j h1 h2 => h j (by omega) h2
/-- A run read with an offset. -/
theorem run_shift {p q : Nat → Bool} {m i : Nat} : ∀ d k, m - k = d → (∀ j, j < m → q (i + j) = p j) → run q (i + m) (i + k) = i + run p m k := by
  intro d
  induction d with
  | zero => intro k hd _; rw [run_out (by omega), run_out (by omega)]
  | succ d ih =>
    intro k hd h
    cases hp : p k
    · rw [run_not hp, run_not (p := q) (k := i + k) (by rw [h k (by omega)]; exact hp)]
    · rw [run_step (by omega) hp, run_step (p := q) (k := i + k) (by omega) (by rw [h k (by omega)]; exact hp)]
      exact ih (k + 1) (by omega) h

/-- A byte is a capital one. -/
def upB5 (c : Nat) : Nat := if 97 ≤ c ∧ c ≤ 122 then c - 32 else c
theorem up_is {c k : Nat} (hk : 65 ≤ k) (hk2 : k ≤ 90) : upB5 c = k ↔ (c = k ∨ c = k + 32) := by
  unfold upB5
  split <;> omega
/-- Does a number begin as one of another base? -/
def basedB (s : ByteArray) : Bool := decide (1 < s.size) && (decide (bt s 0 = 48) && (decide (bt s 1 = 120) || decide (bt s 1 = 88) || decide (bt s 1 = 98) || decide (bt s 1 = 66) || decide (bt s 1 = 111) || decide (bt s 1 = 79)))
def hexB (s : ByteArray) : Bool := basedB s && (decide (bt s 1 = 120) || decide (bt s 1 = 88))
def numP (s : ByteArray) (j : Nat) : Bool := wordB (bt s j) || decide (bt s j = 46) || ((decide (bt s j = 43) || decide (bt s j = 45)) && decide (0 < j) && (decide (bt s (j - 1) = 101) || decide (bt s (j - 1) = 69)) && !hexB s)
def numEnd (s : ByteArray) : Nat := run (numP s) s.size 0
def pointB (c : Nat) : Bool := decide (c = 46) || decide (c = 101) || decide (c = 69)
def numKind (s : ByteArray) : Nat := if basedB s = false ∧ ∃ j, j < numEnd s ∧ pointB (bt s j) = true then 3 else 2
/-- How many bytes a quoted text has; 0: it has no end. -/
def quoEnd (s : ByteArray) (q k : Nat) : Nat :=
  if h : k < s.size then
    if bt s k = q then k + 1
    else if q ≠ 96 ∧ bt s k = 10 then 0
    else if q ≠ 96 ∧ bt s k = 92 then (if k + 1 < s.size ∧ bt s (k + 1) = 10 then 0 else quoEnd s q (k + 2))
    else quoEnd s q (k + 1)
  else 0
termination_by s.size - k
decreasing_by all_goals omega
end Go.Proofs.YtkaafakodeeidaaDoor
