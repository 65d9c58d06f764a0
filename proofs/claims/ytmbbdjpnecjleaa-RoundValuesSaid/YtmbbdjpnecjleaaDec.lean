/-
  Texts of decimal digits; a row of bytes as a text.
-/
import Derived.Test.YtmbbdjpnecjleaaNRev
import Derived.Laws.BytesString
namespace Go.Proofs.Ytmbbdjpnecjleaa
set_option maxRecDepth 100000
open Go.RowKit

/-- Numbers as a text's bytes. -/
def bytesOf (ds : List Nat) : ByteArray := ⟨(ds.map UInt8.ofNat).toArray⟩
theorem bytesOf_size (ds : List Nat) : (bytesOf ds).size = ds.length := by simp [bytesOf, ByteArray.size]
theorem foldl_push (ns : List Int) (s : ByteArray) : ns.foldl (fun r n => r.push (UInt8.ofNat n.toNat)) s = ⟨(s.data.toList ++ ns.map (fun n => UInt8.ofNat n.toNat)).toArray⟩ := by
  induction ns generalizing s with
  | nil => simp
  | cons n r ih =>
    rw [List.foldl_cons, ih]
    simp [ByteArray.push]
/-- []byte to string. -/
theorem run_str {P : Program} (w : World) (src dst e : TypeId) (A : Option Addr) (cap : Nat) (ds : List Nat) (h0 : 0 < ds.length)
    (hs : P.underlying src = some (.slice e)) (he : P.underlying e = some (.int .u8)) (hd : P.underlying dst = some .string)
    (h : Rd w A ds.length (fun k => .int .u8 (ds.getD k 0 : Nat))) :
    (convert src dst (.slice A ds.length cap)).run P w = .ok (.string (bytesOf ds)) w := by
  obtain ⟨b, off, rfl, _, hc⟩ := h h0
  rw [run_convert_bytes_string w src dst e _ _ _ hs he hd]
  rw [run_bytesToString w _ _ _ (ds.map (fun d : Nat => (d : Int)))]
  · rw [foldl_push]
    congr 2
    simp [bytesOf]
  · have hh := run_loadCells_list (P := P) (w := w) ⟨b, off, none⟩ ((ds.map (fun d : Nat => (d : Int))).map (Value.int .u8)) (fun j v hv => by
      have hj : j < ds.length := by have := (List.getElem?_eq_some_iff.1 hv).1; simpa using this
      have := hc j hj
      have e : (⟨b, off, none⟩ : Addr).add j = ⟨b, off + j, none⟩ := by unfold Addr.add; split <;> simp_all
      rw [e, this, ← hv]
      simp [hj])
    simpa using hh

/-- The digits of a text, the highest first. -/
def decL (n : Nat) : List Nat := if n = 0 then [0] else (digs 10 n).reverse
/-- A number's text. -/
def chrs (ds : List Nat) : List Nat := ds.map (fun d => 48 + d)
def dec (n : Nat) : ByteArray := bytesOf (chrs (decL n))
theorem dec_zero : dec 0 = ⟨#[48]⟩ := rfl
theorem decL_pos {n : Nat} (h : n ≠ 0) : decL n = (digs 10 n).reverse := if_neg h
theorem decL_len_pos (n : Nat) : 0 < (decL n).length := by
  unfold decL
  split
  · simp
  · rename_i h
    rw [List.length_reverse]
    exact digs_len_pos (by decide) h
theorem decL_lt (n : Nat) : ∀ d ∈ decL n, d < 10 := by
  unfold decL
  split
  · intro d hd; simp at hd; omega
  · intro d hd
    exact digs_lt (by decide) n d (List.mem_reverse.1 hd)
/-- The digit of a place, the lowest first. -/
theorem decL_get (n i : Nat) (h : i < (decL n).length) : (decL n).getD ((decL n).length - 1 - i) 0 = n / 10 ^ i % 10 := by
  by_cases h0 : n = 0
  · subst h0
    have : i = 0 := by simp [decL] at h; omega
    subst this
    rfl
  · rw [decL_pos h0] at h ⊢
    rw [← digs_get (b := 10) (by decide) n i]
    rw [List.length_reverse] at h ⊢
    rw [List.getD_eq_getElem?_getD, List.getD_eq_getElem?_getD, List.getElem?_reverse (by omega)]
    congr 2
    omega
theorem decL_out (n i : Nat) (h : (decL n).length ≤ i) : n / 10 ^ i = 0 := by
  by_cases h0 : n = 0
  · subst h0; simp
  · rw [decL_pos h0, List.length_reverse] at h
    exact Nat.div_eq_of_lt ((digs_len_le (by decide)).1 h)
theorem decL_in (n i : Nat) (h : i < (decL n).length) (h0 : n ≠ 0) : n / 10 ^ i ≠ 0 := fun e => by
  rw [decL_pos h0, List.length_reverse] at h
  have : n < 10 ^ i := by
    have hp : 0 < 10 ^ i := Nat.pow_pos (by decide)
    exact (Nat.div_eq_zero_iff_lt hp).1 e
  have := (digs_len_le (b := 10) (by decide)).2 this
  omega
end Go.Proofs.Ytmbbdjpnecjleaa
