/-
  Where a text is spoilt: by definition, and by what the decoder says.
-/
import Derived.Test.YtkaafakodeeidaaDoorSize
import Derived.Test.YtkaafakodeeidaaDoorShelf
import Derived.Lib.DecodeN
import Derived.Lib.TrimU
namespace Go.Proofs.YtkaafakodeeidaaDoor
open Go.RowKit

def badAt (s : ByteArray) (i : Nat) : Bool := decide (sizeAt s i = 0) || decide (bt s i = 0)
def spF (s : ByteArray) : Nat → Nat → Int
  | 0, _ => -1
  | n + 1, i => if i < s.size then (if badAt s i = true then (i : Int) else spF s n (i + sizeAt s i)) else -1
/-- Where, from i on; -1: nowhere. -/
def sp (s : ByteArray) (i : Nat) : Int := spF s (s.size + 1 - i) i

theorem badAt_false {s : ByteArray} {i : Nat} (h : badAt s i = false) : sizeAt s i ≠ 0 ∧ bt s i ≠ 0 := by
  unfold badAt at h
  simpa using h
theorem spF_fuel (s : ByteArray) : ∀ n m i : Nat, s.size < n + i → s.size < m + i → spF s n i = spF s m i := by
  intro n
  induction n with
  | zero =>
    intro m i h h'
    cases m with
    | zero => rfl
    | succ m => simp only [spF]; rw [if_neg (by omega)]
  | succ n ih =>
    intro m i h h'
    cases m with
    | zero => simp only [spF]; rw [if_neg (by omega)]
    | succ m =>
      simp only [spF]
      by_cases hi : i < s.size
      · rw [if_pos hi, if_pos hi]
        cases hb : badAt s i
        · have := badAt_false hb
          rw [if_neg (by simp), if_neg (by simp)]
          exact ih m _ (by omega) (by omega)
        · rfl
      · rw [if_neg hi, if_neg hi]
theorem sp_end {s : ByteArray} {i : Nat} (h : ¬ i < s.size) : sp s i = -1 := by
  unfold sp
  cases hn : s.size + 1 - i with
  | zero => rfl
  | succ n => simp only [spF]; rw [if_neg h]
theorem sp_bad {s : ByteArray} {i : Nat} (h : i < s.size) (hb : badAt s i = true) : sp s i = i := by
  unfold sp
  rw [show s.size + 1 - i = (s.size - i) + 1 by omega]
  simp only [spF]
  rw [if_pos h, if_pos hb]
theorem sp_good {s : ByteArray} {i : Nat} (h : i < s.size) (hb : badAt s i = false) : sp s i = sp s (i + sizeAt s i) := by
  have := badAt_false hb
  unfold sp
  rw [show s.size + 1 - i = (s.size - i) + 1 by omega]
  simp only [spF]
  rw [if_pos h, if_neg (by simp [hb])]
  exact spF_fuel s _ _ _ (by omega) (by omega)

/-- The same, over numbers. -/
def sizeN (n b0 b1 b2 b3 : Nat) : Nat :=
  if b0 < 128 then 1
  else if 194 ≤ b0 ∧ b0 ≤ 223 ∧ (1 < n ∧ 128 ≤ b1 ∧ b1 ≤ 191) then 2
  else if 224 ≤ b0 ∧ b0 ≤ 239 ∧ (1 < n ∧ 128 ≤ b1 ∧ b1 ≤ 191) ∧ (2 < n ∧ 128 ≤ b2 ∧ b2 ≤ 191) then
    (if (b0 = 224 ∧ b1 < 160) ∨ (b0 = 237 ∧ 159 < b1) then 0 else 3)
  else if 240 ≤ b0 ∧ b0 ≤ 244 ∧ (1 < n ∧ 128 ≤ b1 ∧ b1 ≤ 191) ∧ (2 < n ∧ 128 ≤ b2 ∧ b2 ≤ 191) ∧ (3 < n ∧ 128 ≤ b3 ∧ b3 ≤ 191) then
    (if (b0 = 240 ∧ b1 < 144) ∨ (b0 = 244 ∧ 143 < b1) then 0 else 4)
  else 0
theorem tailB_iff (s : ByteArray) (i k : Nat) : tailB s (i + k) = true ↔ (k < s.size - i ∧ 128 ≤ bt s (i + k) ∧ bt s (i + k) ≤ 191) := by
  unfold tailB
  simp
  omega
theorem sizeAt_N (s : ByteArray) (i : Nat) : sizeAt s i = sizeN (s.size - i) (bt s i) (bt s (i + 1)) (bt s (i + 2)) (bt s (i + 3)) := by
  unfold sizeAt sizeN
  simp only [tailB_iff]
set_option maxHeartbeats 4000000 in
theorem decodeN_size (n b0 b1 b2 b3 : Nat) (hn : 1 ≤ n) (h0 : b0 < 256) (h1 : b1 < 256) (h2 : b2 < 256) (h3 : b3 < 256) :
    (sizeN n b0 b1 b2 b3 = 0 ∧ Go.Lib.decodeN n b0 b1 b2 b3 = (65533, 1) ∧ b0 ≠ 0) ∨
    (sizeN n b0 b1 b2 b3 = (Go.Lib.decodeN n b0 b1 b2 b3).2 ∧ 1 ≤ sizeN n b0 b1 b2 b3 ∧ sizeN n b0 b1 b2 b3 ≤ n ∧ ((Go.Lib.decodeN n b0 b1 b2 b3).1 = 0 ↔ b0 = 0) ∧ ((Go.Lib.decodeN n b0 b1 b2 b3).1 = 65533 → b0 = 239 ∧ b1 = 191 ∧ b2 = 189 ∧ 2 < n)) := by
  unfold sizeN Go.Lib.decodeN
  repeat' split
  all_goals first
    | (exfalso; omega)
    | (left; refine ⟨rfl, rfl, ?_⟩; omega)
    | (right; refine ⟨rfl, ?_, ?_, ?_, ?_⟩ <;> dsimp only <;> omega)
    | (right; refine ⟨rfl, ?_, ?_, ?_, ?_⟩ <;> omega)

theorem size_decode (s : ByteArray) {i : Nat} (h : i < s.size) :
    (sizeAt s i = 0 ∧ Utf8.decode s i = (65533, 1) ∧ bt s i ≠ 0) ∨
    (sizeAt s i = (Utf8.decode s i).2 ∧ 1 ≤ sizeAt s i ∧ i + sizeAt s i ≤ s.size ∧ ((Utf8.decode s i).1 = 0 ↔ bt s i = 0) ∧ ((Utf8.decode s i).1 = 65533 → bt s i = 239 ∧ bt s (i + 1) = 191 ∧ bt s (i + 2) = 189 ∧ i + 2 < s.size)) := by
  have := decodeN_size (s.size - i) (bt s i) (bt s (i + 1)) (bt s (i + 2)) (bt s (i + 3)) (by omega) (bt_lt _ _) (bt_lt _ _) (bt_lt _ _) (bt_lt _ _)
  rw [← sizeAt_N] at this
  have e : Go.Lib.decodeN (s.size - i) (bt s i) (bt s (i + 1)) (bt s (i + 2)) (bt s (i + 3)) = Utf8.decode s i := (Go.Lib.decode_at s i).symm
  rw [e] at this
  rcases this with h' | ⟨a, b, c, d, e⟩
  · exact .inl h'
  · exact .inr ⟨a, b, by omega, d, fun h => by have := e h; omega⟩
theorem size_le4 (s : ByteArray) (i : Nat) : sizeAt s i ≤ 4 := by
  unfold sizeAt
  repeat' split
  all_goals omega

/-- EF BF BD, from i on. -/
def repl (s : ByteArray) (i : Nat) : Bool := decide (i + 2 < s.size) && (decide (bt s i = 239) && (decide (bt s (i + 1) = 191) && decide (bt s (i + 2) = 189)))
theorem bt_list (s : ByteArray) {i : Nat} (h : i < s.size) : s.data.toList[i]'(by simpa using h) = UInt8.ofNat (bt s i) := by
  have := bt_get s h
  rw [← this, UInt8.ofNat_toNat]
  simp
  rfl
theorem beq_bt (s : ByteArray) (i n : Nat) (hn : n < 256) : (UInt8.ofNat n == UInt8.ofNat (bt s i)) = decide (bt s i = n) := by
  have hb := bt_lt s i
  by_cases h : bt s i = n
  · simp [h]
  · have : ¬ UInt8.ofNat n = UInt8.ofNat (bt s i) := fun e => by
      have := congrArg UInt8.toNat e
      simp at this
      omega
    simp [h, this]
theorem extract_list (s : ByteArray) (i : Nat) : (s.extract i s.size).data.toList = s.data.toList.drop i := by
  rw [ByteArray.data_extract, Array.toList_extract]
  simp [List.extract]
  exact List.take_of_length_le (by simp)
theorem hasPrefix_repl (s : ByteArray) (i : Nat) : Go.Lib.hasPrefix (s.extract i s.size).data.toList [239, 191, 189] = repl s i := by
  rw [extract_list]
  unfold Go.Lib.hasPrefix repl
  by_cases h : i + 2 < s.size
  · have l0 : i < s.data.toList.length := by simpa using (show i < s.size by omega)
    have l1 : i + 1 < s.data.toList.length := by simpa using (show i + 1 < s.size by omega)
    have l2 : i + 2 < s.data.toList.length := by simpa using h
    rw [List.drop_eq_getElem_cons l0, List.drop_eq_getElem_cons l1, List.drop_eq_getElem_cons l2, bt_list s (by omega), bt_list s (by omega), bt_list s h]
    have e0 := beq_bt s i 239 (by omega)
    have e1 := beq_bt s (i + 1) 191 (by omega)
    have e2 := beq_bt s (i + 2) 189 (by omega)
    have n0 : UInt8.ofNat 239 = (239 : UInt8) := rfl
    have n1 : UInt8.ofNat 191 = (191 : UInt8) := rfl
    have n2 : UInt8.ofNat 189 = (189 : UInt8) := rfl
    rw [n0] at e0
    rw [n1] at e1
    rw [n2] at e2
    simp only [List.isPrefixOf, e0, e1, e2, h, decide_true, Bool.true_and, Bool.and_true]
  · have : ¬ [239, 191, 189].isPrefixOf (s.data.toList.drop i) = true := fun e => by
      have := (List.isPrefixOf_iff_prefix.1 e).length_le
      simp at this
      have e' : s.data.size = s.size := rfl
      omega
    rw [Bool.eq_false_iff.2 this]
    simp [h]
theorem repl_size {s : ByteArray} {i : Nat} (h : repl s i = true) : sizeAt s i = 3 := by
  unfold repl at h
  simp at h
  obtain ⟨h0, h1, h2, h3⟩ := h
  unfold sizeAt
  have t1 : tailB s (i + 1) = true := by unfold tailB; simp; omega
  have t2 : tailB s (i + 2) = true := by unfold tailB; simp; omega
  rw [if_neg (by omega), if_neg (by omega), if_pos ⟨by omega, by omega, t1, t2⟩, if_neg (by omega)]
/-- What the loop asks of a rune and of what lies there: is the text spoilt at i? -/
theorem bad_decode (s : ByteArray) {i : Nat} (h : i < s.size) : badAt s i = (decide ((Utf8.decode s i).1 = 0) || (decide ((Utf8.decode s i).1 = 65533) && !repl s i)) := by
  unfold badAt
  rcases size_decode s h with ⟨h0, h1, h2⟩ | ⟨h0, h1, h2, h3, h4⟩
  · have : repl s i = false := by
      cases hr : repl s i
      · rfl
      · have := repl_size hr; omega
    rw [h1, this, h0]
    simp
  · by_cases hz : bt s i = 0
    · simp [hz, h3.2 hz]
    · have hz' : ¬ (Utf8.decode s i).1 = 0 := fun e => hz (h3.1 e)
      have hs : ¬ sizeAt s i = 0 := by omega
      by_cases hr : (Utf8.decode s i).1 = 65533
      · have : repl s i = true := by
          obtain ⟨a, b, c, d⟩ := h4 hr
          unfold repl
          simp [a, b, c, d]
        simp [hz, hs, hr, this]
      · simp [hz, hz', hs, hr]
end Go.Proofs.YtkaafakodeeidaaDoor
