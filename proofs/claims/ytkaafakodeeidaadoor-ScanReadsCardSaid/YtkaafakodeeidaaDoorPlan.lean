/-
  Layer 5, plain: the whole scan as a function of the text; how far each step goes. No program.
-/
import Derived.Test.YtkaafakodeeidaaDoorTks
import Derived.Test.YtkaafakodeeidaaDoorCheck
namespace Go.Proofs.YtkaafakodeeidaaDoor
open Go.RowKit

theorem ext_size (s : ByteArray) (i : Nat) : (s.extract i s.size).size = s.size - i := by rw [ByteArray.size_extract]; omega
theorem skip_le (t : ByteArray) (h : 0 < t.size) : skipN t ≤ (t.size : Int) := by
  unfold skipN
  split
  · omega
  · split
    · have := run_le (lineP t) (m := t.size) (k := 0) (by omega); omega
    · split
      · split <;> omega
      · omega
theorem quo_le (s : ByteArray) (q : Nat) : ∀ d k, s.size - k = d → quoEnd s q k ≤ s.size ∧ (quoEnd s q k = 0 ∨ k < quoEnd s q k) := by
  intro d
  induction d using Nat.strongRecOn with
  | ind d ih =>
    intro k hd
    by_cases hk : k < s.size
    · by_cases h1 : bt s k = q
      · rw [quoEnd_hit hk h1]; omega
      · by_cases h2 : q ≠ 96 ∧ bt s k = 10
        · rw [quoEnd_line hk h1 h2.1 h2.2]; omega
        · by_cases h3 : q ≠ 96 ∧ bt s k = 92
          · rw [quoEnd_esc hk h1 h3.1 h3.2]
            split
            · omega
            · obtain ⟨a, b⟩ := ih (s.size - (k + 2)) (by omega) (k + 2) rfl
              exact ⟨a, by omega⟩
          · rw [quoEnd_next hk h1 (by omega)]
            obtain ⟨a, b⟩ := ih (s.size - (k + 1)) (by omega) (k + 1) rfl
            exact ⟨a, by omega⟩
    · rw [quoEnd_out hk]; omega
theorem pre_le {s p : List UInt8} (h : Go.Lib.hasPrefix s p = true) : p.length ≤ s.length := (List.isPrefixOf_iff_prefix.1 h).length_le
theorem op_le (t : ByteArray) : ∀ L, opFrom t L ≤ t.size
  | [] => Nat.zero_le _
  | k :: ks => by
    unfold opFrom
    split
    · rename_i h
      have := pre_le h
      exact this
    · exact op_le t ks
theorem kind_in (t : ByteArray) : numKind t = 2 ∨ numKind t = 3 := by unfold numKind; split <;> omega
/-- A token that is none's end: how long it is, of what kind. -/
theorem tok_le (t : ByteArray) (h : 0 < t.size) (he : (tokOf t).2.2 = 0) : 0 < (tokOf t).2.1 ∧ (tokOf t).2.1 ≤ t.size ∧ 1 ≤ (tokOf t).1 ∧ (tokOf t).1 ≤ 7 := by
  have e : tokOf t = tokOf t := rfl
  conv at e => rhs; unfold tokOf
  by_cases h1 : letter (bt t 0 : Int) = true
  · rw [if_pos h1] at e
    have r1 := run_le (wordP t) (m := t.size) (k := 0) (by omega)
    have hw : wordP t 0 = true := by unfold wordP wordB; rw [h1]; rfl
    have r2 : 0 < run (wordP t) t.size 0 := by rw [run_step h hw]; exact run_ge _ _ _
    by_cases h2 : 20 < run (wordP t) t.size 0
    · rw [if_pos h2] at e; rw [e] at he; cases he
    · rw [if_neg h2] at e
      split at e
      · rw [e]; exact ⟨r2, r1, by simp, by simp⟩
      · rw [e]; exact ⟨r2, r1, by simp, by simp⟩
  · rw [if_neg h1] at e
    by_cases h2 : digB (bt t 0) = true ∨ (bt t 0 = 46 ∧ digB (bt t 1) = true)
    · rw [if_pos h2] at e
      have r1 := numEnd_le t
      have hw : numP t 0 = true := by
        unfold numP wordB
        rcases h2 with h2 | ⟨h2, _⟩
        · rw [h2]; simp
        · rw [h2]; simp
      have r2 : 0 < numEnd t := by unfold numEnd; rw [run_step h hw]; exact run_ge _ _ _
      rw [e]
      have := kind_in t
      exact ⟨r2, r1, by show 1 ≤ numKind t; omega, by show numKind t ≤ 7; omega⟩
    · rw [if_neg h2] at e
      by_cases h3 : bt t 0 = 39 ∨ bt t 0 = 34 ∨ bt t 0 = 96
      · rw [if_pos h3] at e
        obtain ⟨a, b⟩ := quo_le t (bt t 0) _ 1 rfl
        by_cases h4 : quoEnd t (bt t 0) 1 = 0
        · rw [if_pos h4] at e; rw [e] at he; cases he
        · rw [if_neg h4] at e
          split at e
          · rw [e]; exact ⟨by show 0 < quoEnd t (bt t 0) 1; omega, a, by simp, by simp⟩
          · rw [e]; exact ⟨by show 0 < quoEnd t (bt t 0) 1; omega, a, by simp, by simp⟩
      · rw [if_neg h3] at e
        have a := op_le t opsL
        by_cases h4 : opLen t = 0
        · rw [if_pos h4] at e; rw [e] at he; cases he
        · rw [if_neg h4] at e
          rw [e]; exact ⟨by show 0 < opLen t; omega, a, by simp, by simp⟩
/-- The text from a place on. -/
def tl (s : ByteArray) (i : Nat) : ByteArray := s.extract i s.size
def nlT : ByteArray := ⟨#[10]⟩
def withNl (M : List Tk) (i : Nat) : List Tk := if endsB M = true then M ++ [⟨6, nlT, i⟩] else M
def lastly (M : List Tk) (i : Nat) : List Tk × Nat × Nat := if 1500 < (withNl M i).length + 1 then ([], 0, 7) else (withNl M i ++ [⟨0, ByteArray.empty, i⟩], 0, 0)
/-- What is left to be done from a place on: tokens, or the error and where. -/
def scanF : Nat → ByteArray → List Tk → Nat → List Tk × Nat × Nat
  | 0, _, M, i => lastly M i
  | f + 1, s, M, i =>
    if i < s.size then
      if skipN (tl s i) < 0 then ([], i, 5)
      else if 0 < skipN (tl s i) then scanF f s (if skipL (tl s i) = true then withNl M i else M) (i + (skipN (tl s i)).toNat)
      else if (tokOf (tl s i)).2.2 ≠ 0 then ([], i, (tokOf (tl s i)).2.2)
      else scanF f s (M ++ [⟨(tokOf (tl s i)).1, s.extract i (i + (tokOf (tl s i)).2.1), i⟩]) (i + (tokOf (tl s i)).2.1)
    else lastly M i
def scanFrom (s : ByteArray) (M : List Tk) (i : Nat) : List Tk × Nat × Nat := scanF (s.size - i) s M i
theorem tl_size (s : ByteArray) {i : Nat} (h : i < s.size) : 0 < (tl s i).size := by unfold tl; rw [ext_size]; omega
theorem tl_is (s : ByteArray) (i : Nat) : (tl s i).size = s.size - i := ext_size s i
theorem scanF_any (s : ByteArray) : ∀ f g M i, s.size - i ≤ f → s.size - i ≤ g → scanF f s M i = scanF g s M i := by
  intro f
  induction f with
  | zero =>
    intro g M i h1 h2
    cases g with
    | zero => rfl
    | succ g => rw [scanF, scanF, if_neg (by omega)]
  | succ f ih =>
    intro g M i h1 h2
    cases g with
    | zero => rw [scanF, scanF, if_neg (by omega)]
    | succ g =>
      rw [scanF, scanF]
      by_cases hi : i < s.size
      · rw [if_pos hi, if_pos hi]
        by_cases h3 : skipN (tl s i) < 0
        · rw [if_pos h3, if_pos h3]
        · rw [if_neg h3, if_neg h3]
          by_cases h4 : 0 < skipN (tl s i)
          · rw [if_pos h4, if_pos h4]
            exact ih _ _ _ (by omega) (by omega)
          · rw [if_neg h4, if_neg h4]
            by_cases h5 : (tokOf (tl s i)).2.2 ≠ 0
            · rw [if_pos h5, if_pos h5]
            · rw [if_neg h5, if_neg h5]
              have := (tok_le _ (tl_size s hi) (by omega)).1
              exact ih _ _ _ (by omega) (by omega)
      · rw [if_neg hi, if_neg hi]
theorem scan_out {s : ByteArray} {M : List Tk} {i : Nat} (h : ¬ i < s.size) : scanFrom s M i = lastly M i := by
  unfold scanFrom
  rw [show s.size - i = 0 by omega, scanF]
theorem scan_step {s : ByteArray} {M : List Tk} {i : Nat} (h : i < s.size) : scanFrom s M i =
      if skipN (tl s i) < 0 then ([], i, 5)
      else if 0 < skipN (tl s i) then scanFrom s (if skipL (tl s i) = true then withNl M i else M) (i + (skipN (tl s i)).toNat)
      else if (tokOf (tl s i)).2.2 ≠ 0 then ([], i, (tokOf (tl s i)).2.2)
      else scanFrom s (M ++ [⟨(tokOf (tl s i)).1, s.extract i (i + (tokOf (tl s i)).2.1), i⟩]) (i + (tokOf (tl s i)).2.1) := by
  unfold scanFrom
  rw [scanF_any s (s.size - i) (s.size + 1) M i (by omega) (by omega), scanF, if_pos h]
  by_cases h3 : skipN (tl s i) < 0
  · rw [if_pos h3, if_pos h3]
  · rw [if_neg h3, if_neg h3]
    by_cases h4 : 0 < skipN (tl s i)
    · rw [if_pos h4, if_pos h4]
      exact scanF_any s _ _ _ _ (by omega) (by omega)
    · rw [if_neg h4, if_neg h4]
      by_cases h5 : (tokOf (tl s i)).2.2 ≠ 0
      · rw [if_pos h5, if_pos h5]
      · rw [if_neg h5, if_neg h5]
        exact scanF_any s _ _ _ _ (by omega) (by omega)
def scanAll (s : ByteArray) : List Tk × Nat × Nat := if 4000 < s.size then ([], 0, 7) else if sp s 0 = -1 then scanFrom s [] 0 else ([], (sp s 0).toNat, 12)
end Go.Proofs.YtkaafakodeeidaaDoor
