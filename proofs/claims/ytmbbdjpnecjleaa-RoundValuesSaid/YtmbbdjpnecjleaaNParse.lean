/-
  digit, Parse, walked.
-/
import Derived.Test.YtmbbdjpnecjleaaNText
import Derived.Deep.RegionHeld3
import Derived.Lib.ConvBytes
namespace Go.Proofs.Ytmbbdjpnecjleaa
set_option maxRecDepth 100000
open Go.RowKit

set_option maxHeartbeats 400000 in
theorem text_wrong (A : Option Addr) (cap : Nat) (xs : List Nat) (w : World) (h : RdL w A xs) (hl : xs.length ≤ 18) (hr : rightL xs = false) :
    Calls Try.prog 58 #[.slice A xs.length cap] w (RetSE ByteArray.empty 1 w) := by
  have H := Lib.hid h; clear h
  go_enter Try.func58, Try.ntmps58
  go_wp2_with fail
  refine (right_any A cap xs _ H.out (by omega)).mono ?_
  rintro e w1 ⟨rfl, m1, rfl⟩
  rw [hr]
  go_wp2
  go_ret2
  exact ⟨rfl, bel_drewN (bel_refl _) _⟩

/-- A byte's number; 99, if it is none. -/
def digV (c : Nat) : Nat := if 48 ≤ c ∧ c ≤ 57 then c - 48 else if 97 ≤ c ∧ c ≤ 102 then c - 87 else if 65 ≤ c ∧ c ≤ 70 then c - 55 else 99
theorem digV_le (c : Nat) : digV c ≤ 99 := by unfold digV; (repeat' split) <;> omega

theorem digV_arms (c : Nat) (hc : c < 256) : (48 ≤ c ∧ c ≤ 57 ∧ digV c = c - 48) ∨ (97 ≤ c ∧ c ≤ 102 ∧ digV c = c - 87) ∨ (65 ≤ c ∧ c ≤ 70 ∧ digV c = c - 55) ∨ ((c < 48 ∨ (57 < c ∧ c < 65) ∨ (70 < c ∧ c < 97) ∨ 102 < c) ∧ digV c = 99) := by
  unfold digV
  (repeat' split) <;> omega
/-- Is a byte of a row none of the base? -/
def oddIn (base : Nat) (cs : List Nat) : Bool := cs.any (fun c => decide (base ≤ digV c))

/-- Is it one of the four? -/
def isBase (b : Int) : Bool := ([2, 8, 10, 16] : List Int).contains b
/-- A text's bytes as numbers. -/
def codes (s : ByteArray) : List Nat := s.data.toList.map UInt8.toNat
theorem codes_len (s : ByteArray) : (codes s).length = s.size := by unfold codes; rw [List.length_map]; exact Array.length_toList
theorem codes_lt (s : ByteArray) : ∀ c ∈ codes s, c < 256 := by
  intro c hc
  obtain ⟨b, _, rfl⟩ := List.mem_map.1 hc
  exact UInt8.toNat_lt b
theorem codes_get (s : ByteArray) {i : Nat} (h : i < s.size) : (s[i]'h).toNat = (codes s).getD i 0 := by
  have h2 : i < s.data.size := h
  simp only [codes, List.getD_eq_getElem?_getD, List.getElem?_map]
  rw [List.getElem?_eq_getElem (by simpa using h2)]
  simp
  rfl
/-- The number of a text to a base. -/
def numOf (base : Nat) (cs : List Nat) : Nat := cs.foldl (fun n c => n * base + digV c) 0
theorem numOf_succ (base : Nat) (cs : List Nat) {k : Nat} (h : k < cs.length) : numOf base (cs.take (k + 1)) = base * numOf base (cs.take k) + digV (cs.getD k 0) := by
  unfold numOf
  rw [List.take_succ_eq_append_getElem h, List.foldl_append, List.getD_eq_getElem?_getD, List.getElem?_eq_getElem h, Nat.mul_comm base]
  rfl
theorem numOf_le (base : Nat) (cs : List Nat) (k : Nat) (hb : 1 ≤ base) : numOf base (cs.take k) ≤ numOf base cs := by
  have h : ∀ (l : List Nat) (n : Nat), n ≤ l.foldl (fun n c => n * base + digV c) n := by
    intro l
    induction l with
    | nil => intro n; exact Nat.le_refl _
    | cons c r ih =>
      intro n
      rw [List.foldl_cons]
      refine Nat.le_trans ?_ (ih _)
      have : n * 1 ≤ n * base := Nat.mul_le_mul_left _ hb
      omega
  conv => rhs; rw [← List.take_append_drop k cs]
  unfold numOf
  rw [List.foldl_append]
  exact h _ _

theorem bel_bytes (w : World) (e : TypeId) (s : ByteArray) : Below w.heap.size w (Lib.bytesWorld w e s) :=
  Lib.below_freeze ((Below.refl _ _).drew.alloc (Nat.le_refl _) _) (Nat.le_refl _) _

theorem empty_bytes {s : ByteArray} : s.toList.isEmpty = decide (s.size = 0) := by
  rw [ByteArray.toList_eq, Bool.eq_iff_iff, List.isEmpty_iff, decide_eq_true_eq, ← List.length_eq_zero_iff]
  have : s.data.toList.length = s.size := Array.length_toList
  rw [this]

/-- The number so far. -/
structure PaRel (W4 wr : World) (s : ByteArray) (b k : Nat) (v : Value) : Prop where
  old : Below W4.heap.size W4 wr
  num : RdN wr v (numOf b ((codes s).take k))
  small : numOf b ((codes s).take k) < Top

end Go.Proofs.Ytmbbdjpnecjleaa
