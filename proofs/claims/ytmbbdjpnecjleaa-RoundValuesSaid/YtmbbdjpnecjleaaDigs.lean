/-
  Numbers and their digits, to any base, the lowest first. No program in sight.
-/
import Derived.Test.YtmbbdjpnecjleaaLib
namespace Go.Proofs.Ytmbbdjpnecjleaa
set_option maxRecDepth 100000

/-- The number that digits are. -/
def val (b : Nat) : List Nat → Nat
  | [] => 0
  | x :: r => x + b * val b r
def digF (b : Nat) : Nat → Nat → List Nat
  | 0, _ => []
  | f + 1, n => if n = 0 then [] else n % b :: digF b f (n / b)
/-- The digits of a number, no zeros at the end. -/
def digs (b n : Nat) : List Nat := digF b n n

theorem digF_fuel {b : Nat} (hb : 2 ≤ b) : ∀ f g n, n ≤ f → n ≤ g → digF b f n = digF b g n := by
  intro f
  induction f with
  | zero =>
    intro g n h _
    have : n = 0 := by omega
    subst this
    cases g <;> rfl
  | succ f ih =>
    intro g n h h'
    cases g with
    | zero =>
      have : n = 0 := by omega
      subst this
      rfl
    | succ g =>
      simp only [digF]
      by_cases h0 : n = 0
      · rw [if_pos h0, if_pos h0]
      · rw [if_neg h0, if_neg h0]
        have := Nat.div_lt_self (by omega : 0 < n) (by omega : 1 < b)
        rw [ih g (n / b) (by omega) (by omega)]
theorem digs_zero (b : Nat) : digs b 0 = [] := rfl
theorem digs_pos {b n : Nat} (hb : 2 ≤ b) (h : n ≠ 0) : digs b n = n % b :: digs b (n / b) := by
  unfold digs
  cases n with
  | zero => exact absurd rfl h
  | succ m =>
    simp only [digF]
    rw [if_neg h]
    have := Nat.div_lt_self (by omega : 0 < m + 1) (by omega : 1 < b)
    rw [digF_fuel hb m ((m + 1) / b) _ (by omega) (Nat.le_refl _)]
theorem digs_step {b x n : Nat} (hb : 2 ≤ b) (hx : x < b) (h : x + b * n ≠ 0) : digs b (x + b * n) = x :: digs b n := by
  rw [digs_pos hb h]
  have h1 : (x + b * n) % b = x := by rw [Nat.add_mul_mod_self_left, Nat.mod_eq_of_lt hx]
  have h2 : (x + b * n) / b = n := by rw [Nat.add_mul_div_left _ _ (by omega), Nat.div_eq_of_lt hx]; omega
  rw [h1, h2]
theorem val_digs {b : Nat} (hb : 2 ≤ b) (n : Nat) : val b (digs b n) = n := by
  induction n using Nat.strongRecOn with
  | ind n ih =>
    by_cases h : n = 0
    · subst h; rfl
    · rw [digs_pos hb h]
      simp only [val]
      rw [ih _ (Nat.div_lt_self (by omega) (by omega))]
      exact Nat.mod_add_div n b
theorem digs_lt {b : Nat} (hb : 2 ≤ b) (n : Nat) : ∀ x ∈ digs b n, x < b := by
  induction n using Nat.strongRecOn with
  | ind n ih =>
    by_cases h : n = 0
    · subst h; simp [digs_zero]
    · rw [digs_pos hb h]
      intro x hx
      rcases List.mem_cons.1 hx with rfl | hx
      · exact Nat.mod_lt _ (by omega)
      · exact ih _ (Nat.div_lt_self (by omega) (by omega)) x hx
/-- Digits whose last one is not 0 are the digits of their number. -/
theorem digs_val {b : Nat} (hb : 2 ≤ b) (xs : List Nat) (hx : ∀ x ∈ xs, x < b) (hl : ∀ h : xs ≠ [], xs.getLast h ≠ 0) : digs b (val b xs) = xs := by
  induction xs with
  | nil => rfl
  | cons x r ih =>
    have hr : digs b (val b r) = r := ih (fun y hy => hx y (List.mem_cons_of_mem _ hy)) (fun h => by have := hl (by simp); rwa [List.getLast_cons h] at this)
    have hne : x + b * val b r ≠ 0 := by
      intro h0
      have hx0 : x = 0 := by omega
      have hv0 : val b r = 0 := by
        have : b * val b r = 0 := by omega
        rcases Nat.mul_eq_zero.1 this with h | h
        · omega
        · exact h
      rw [hv0] at hr
      have hr' : r = [] := by rw [← hr]; rfl
      subst hr'
      have := hl (by simp)
      simp at this
      exact this hx0
    simp only [val]
    rw [digs_step hb (hx x (by simp)) hne, hr]
theorem val_app (b : Nat) (xs ys : List Nat) : val b (xs ++ ys) = val b xs + b ^ xs.length * val b ys := by
  induction xs with
  | nil => simp [val]
  | cons x r ih => simp only [List.cons_append, val, ih, List.length_cons, Nat.pow_succ]; rw [Nat.mul_add, Nat.add_assoc, ← Nat.mul_assoc, Nat.mul_comm b (b ^ r.length)]
theorem val_snoc (b : Nat) (xs : List Nat) (y : Nat) : val b (xs ++ [y]) = val b xs + b ^ xs.length * y := by rw [val_app]; simp [val]
theorem val_lt {b : Nat} (xs : List Nat) (hx : ∀ x ∈ xs, x < b) : val b xs < b ^ xs.length := by
  induction xs with
  | nil => simp [val]
  | cons x r ih =>
    have h1 := hx x (by simp)
    have h2 := ih (fun y hy => hx y (List.mem_cons_of_mem _ hy))
    simp only [val, List.length_cons, Nat.pow_succ]
    have h3 : b * (val b r + 1) ≤ b * b ^ r.length := Nat.mul_le_mul_left b h2
    rw [Nat.mul_add, Nat.mul_one] at h3
    rw [Nat.mul_comm (b ^ r.length) b]
    omega
theorem val_zeros (b : Nat) (xs : List Nat) (hx : ∀ x ∈ xs, x = 0) : val b xs = 0 := by
  induction xs with
  | nil => rfl
  | cons x r ih =>
    simp only [val]
    rw [ih (fun y hy => hx y (List.mem_cons_of_mem _ hy)), hx x (by simp)]
    simp
theorem digs_len_le {b n k : Nat} (hb : 2 ≤ b) : (digs b n).length ≤ k ↔ n < b ^ k := by
  constructor
  · intro h
    have := val_lt (digs b n) (digs_lt hb n)
    rw [val_digs hb] at this
    exact Nat.lt_of_lt_of_le this (Nat.pow_le_pow_right (by omega) h)
  · induction k generalizing n with
    | zero =>
      intro h
      have : n = 0 := by simpa using h
      subst this
      simp [digs_zero]
    | succ k ih =>
      intro h
      by_cases h0 : n = 0
      · subst h0; simp [digs_zero]
      · rw [digs_pos hb h0]
        have : n / b < b ^ k := by rw [Nat.div_lt_iff_lt_mul (by omega)]; rwa [Nat.pow_succ] at h
        have := ih this
        simp only [List.length_cons]
        omega
theorem digs_nil {b n : Nat} (hb : 2 ≤ b) : digs b n = [] ↔ n = 0 := by
  constructor
  · intro h
    have := val_digs hb n
    rw [h] at this
    exact this.symm
  · rintro rfl; rfl
theorem digs_len_pos {b n : Nat} (hb : 2 ≤ b) (h : n ≠ 0) : 0 < (digs b n).length := by
  rw [List.length_pos_iff]
  exact fun e => h ((digs_nil hb).1 e)
/-- The digit at a place; 0 behind the last one. -/
theorem digs_get {b : Nat} (hb : 2 ≤ b) (n i : Nat) : (digs b n).getD i 0 = n / b ^ i % b := by
  induction i generalizing n with
  | zero =>
    by_cases h : n = 0
    · subst h; simp [digs_zero]
    · rw [digs_pos hb h]; simp
  | succ i ih =>
    by_cases h : n = 0
    · subst h; simp [digs_zero]
    · rw [digs_pos hb h, List.getD_cons_succ, ih, Nat.pow_succ, Nat.mul_comm, ← Nat.div_div_eq_div_mul]
theorem digs_drop {b : Nat} (hb : 2 ≤ b) (n i : Nat) : (digs b n).drop i = digs b (n / b ^ i) := by
  induction i generalizing n with
  | zero => simp
  | succ i ih =>
    by_cases h : n = 0
    · subst h; simp [digs_zero]
    · rw [digs_pos hb h, List.drop_succ_cons, ih, Nat.pow_succ, Nat.mul_comm, ← Nat.div_div_eq_div_mul]
theorem val_drop_digs {b : Nat} (hb : 2 ≤ b) (n i : Nat) : val b ((digs b n).drop i) = n / b ^ i := by rw [digs_drop hb, val_digs hb]
/-- What is behind n / b^i's lowest digit. -/
theorem div_pow_step {b : Nat} (n i : Nat) : n / b ^ i = n / b ^ i % b + b * (n / b ^ (i + 1)) := by
  rw [Nat.pow_succ, ← Nat.div_div_eq_div_mul]
  exact (Nat.mod_add_div _ _).symm
theorem val_take_zero {b : Nat} (xs : List Nat) (k : Nat) (hz : ∀ x ∈ xs.drop k, x = 0) : val b (xs.take k) = val b xs := by
  conv => rhs; rw [← List.take_append_drop k xs]
  rw [val_app, val_zeros b _ hz]
  simp
end Go.Proofs.Ytmbbdjpnecjleaa
