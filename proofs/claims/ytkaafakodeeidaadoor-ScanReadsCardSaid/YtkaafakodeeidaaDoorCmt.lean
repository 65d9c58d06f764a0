/-
  Layer 5's comments, plain: where one ends, and whether a new line lies in it. No program.
-/
import Derived.Test.YtkaafakodeeidaaDoorNum
import Derived.Lib.IndexMore
namespace Go.Proofs.YtkaafakodeeidaaDoor
open Go.RowKit

def closeP (t : ByteArray) (j : Nat) : Bool := !(decide (bt t j = 42) && decide (bt t (j + 1) = 47))
def cmtEnd (t : ByteArray) : Nat := run (closeP t) (t.size - 1) 2
def cmtLine (t : ByteArray) : Bool := decide (run (lineP t) (cmtEnd t) 2 < cmtEnd t)
theorem tail_get {t : ByteArray} {a j : Nat} {b : UInt8} : (t.extract a t.size).data.toList[j]? = some b ↔ a + j < t.size ∧ b.toNat = bt t (a + j) := by
  rw [Go.Lib.extract_to_end, List.getElem?_drop]
  constructor
  · intro h
    have h1 : a + j < t.data.toList.length := (List.getElem?_eq_some_iff.1 h).1
    have h2 := (List.getElem?_eq_some_iff.1 h).2
    have h3 : a + j < t.size := h1
    refine ⟨h3, ?_⟩
    rw [← bt_get t h3, ← h2]
    rfl
  · rintro ⟨h1, h2⟩
    rw [List.getElem?_eq_some_iff]
    refine ⟨h1, ?_⟩
    have h3 := bt_get t h1
    exact UInt8.toNat_inj.1 (h3.trans h2.symm)
theorem occ_two (l : List UInt8) (a b : UInt8) (j : Nat) : Go.Lib.occAt l [a, b] j = true ↔ (l[j]? = some a ∧ l[j + 1]? = some b) := by
  unfold Go.Lib.occAt
  have e1 : l[j]? = (l.drop j)[0]? := by rw [List.getElem?_drop, Nat.add_zero]
  have e2 : l[j + 1]? = (l.drop j)[1]? := by rw [List.getElem?_drop]
  rw [e1, e2]
  match l.drop j with
  | [] => simp
  | [x] => simp [List.isPrefixOf]
  | x :: y :: r =>
    simp only [List.isPrefixOf, List.getElem?_cons_zero, List.getElem?_cons_succ, Option.some.injEq, Bool.and_eq_true, beq_iff_eq]
    constructor
    · rintro ⟨rfl, rfl, _⟩; exact ⟨rfl, rfl⟩
    · rintro ⟨rfl, rfl⟩; exact ⟨rfl, rfl, trivial⟩
theorem occ_close {t : ByteArray} {j : Nat} : Go.Lib.occAt (t.extract 2 t.size).data.toList [42, 47] j = true ↔ (2 + j + 1 < t.size ∧ closeP t (2 + j) = false) := by
  rw [occ_two, tail_get, tail_get]
  unfold closeP
  simp only [Bool.not_eq_false', Bool.and_eq_true, decide_eq_true_eq]
  constructor
  · rintro ⟨⟨_, h2⟩, h3, h4⟩
    exact ⟨h3, h2.symm, h4.symm⟩
  · rintro ⟨h1, h2, h3⟩
    exact ⟨⟨by omega, h2.symm⟩, h1, h3.symm⟩
theorem cmt_index (t : ByteArray) (h2 : 2 ≤ t.size) : Go.Lib.index (t.extract 2 t.size).data.toList [42, 47] = if cmtEnd t + 1 < t.size then ((cmtEnd t - 2 : Nat) : Int) else -1 := by
  obtain ⟨r1, r2, r3, r4⟩ := run_spec (closeP t) (t.size - 1) _ 2 rfl
  have hge : 2 ≤ cmtEnd t := r1
  have hlen : (t.extract 2 t.size).data.toList.length = t.size - 2 := by
    show (t.extract 2 t.size).size = _
    rw [ByteArray.size_extract]
    omega
  by_cases h : cmtEnd t + 1 < t.size
  · rw [if_pos h]
    refine Go.Lib.index_first (by rw [hlen]; omega) ?_ fun j hj => ?_
    · rw [occ_close, show 2 + (cmtEnd t - 2) = cmtEnd t by omega]
      exact ⟨h, r4 (by show cmtEnd t < _; omega)⟩
    · cases ho : Go.Lib.occAt (t.extract 2 t.size).data.toList [42, 47] j
      · rfl
      · have := (occ_close.1 ho).2
        rw [r3 (2 + j) (by omega) (by show 2 + j < cmtEnd t; omega)] at this
        cases this
  · rw [if_neg h]
    refine Go.Lib.index_none fun j hj => ?_
    cases ho : Go.Lib.occAt (t.extract 2 t.size).data.toList [42, 47] j
    · rfl
    · obtain ⟨a, b⟩ := occ_close.1 ho
      rw [r3 (2 + j) (by omega) (by show 2 + j < cmtEnd t; omega)] at b
      cases b
theorem line_in (t : ByteArray) : cmtLine t = true ↔ ∃ j, 2 ≤ j ∧ j < cmtEnd t ∧ bt t j = 10 := by
  unfold cmtLine
  obtain ⟨r1, r2, r3, r4⟩ := run_spec (lineP t) (cmtEnd t) _ 2 rfl
  rw [decide_eq_true_iff]
  constructor
  · intro h
    refine ⟨_, r1, h, ?_⟩
    have h4 := r4 h
    obtain ⟨k, hk⟩ : ∃ k, run (lineP t) (cmtEnd t) 2 = k := ⟨_, rfl⟩
    rw [hk] at h4 ⊢
    unfold lineP at h4
    simpa using h4
  · rintro ⟨j, h1, h2, h3⟩
    rcases Nat.lt_or_ge (run (lineP t) (cmtEnd t) 2) (cmtEnd t) with h | h
    · exact h
    · have h5 : lineP t j = true := r3 j h1 (by omega)
      unfold lineP at h5
      simp [h3] at h5
theorem cmt_line (t : ByteArray) (hf : cmtEnd t + 1 < t.size) : decide (0 ≤ Go.Lib.indexByte ((t.extract 2 t.size).data.toList.take (cmtEnd t - 2)) 10) = cmtLine t := by
  rw [Bool.eq_iff_iff, decide_eq_true_iff, line_in]
  have hge : 2 ≤ cmtEnd t := run_ge _ _ _
  constructor
  · intro h
    obtain ⟨o, ho⟩ : ∃ o : Nat, Go.Lib.indexByte ((t.extract 2 t.size).data.toList.take (cmtEnd t - 2)) 10 = o := ⟨_, (Int.toNat_of_nonneg h).symm⟩
    have h1 := (Go.Lib.indexByte_some ho).1
    have h2 : o < cmtEnd t - 2 := by
      have := (List.getElem?_eq_some_iff.1 h1).1
      rw [List.length_take] at this
      omega
    rw [List.getElem?_take_of_lt h2] at h1
    have h3 := tail_get.1 h1
    exact ⟨2 + o, by omega, by omega, h3.2.symm⟩
  · rintro ⟨j, h1, h2, h3⟩
    have hg := Go.Lib.indexByte_ge ((t.extract 2 t.size).data.toList.take (cmtEnd t - 2)) 10
    rcases Int.lt_or_le (Go.Lib.indexByte ((t.extract 2 t.size).data.toList.take (cmtEnd t - 2)) 10) 0 with h | h
    · exfalso
      have hm : Go.Lib.indexByte ((t.extract 2 t.size).data.toList.take (cmtEnd t - 2)) 10 = -1 := by omega
      refine Go.Lib.indexByte_none (l := (t.extract 2 t.size).data.toList.take (cmtEnd t - 2)) (c := 10) hm (j - 2) ?_
      rw [List.getElem?_take_of_lt (by omega), tail_get, show 2 + (j - 2) = j by omega]
      exact ⟨by omega, h3.symm⟩
    · exact h
/-- What is left out at a text's beginning: how many bytes (below 0: it has no end), and whether there is a new line. -/
def skipN (t : ByteArray) : Int := if bt t 0 = 9 ∨ bt t 0 = 13 ∨ bt t 0 = 32 ∨ bt t 0 = 10 then 1 else if bt t 0 = 47 ∧ bt t 1 = 47 then (run (lineP t) t.size 0 : Nat) else if bt t 0 = 47 ∧ bt t 1 = 42 then (if cmtEnd t + 1 < t.size then ((cmtEnd t + 2 : Nat) : Int) else -1) else 0
def skipL (t : ByteArray) : Bool := decide (bt t 0 = 10) || (decide (bt t 0 = 47) && decide (bt t 1 = 42) && decide (cmtEnd t + 1 < t.size) && cmtLine t)
end Go.Proofs.YtkaafakodeeidaaDoor
