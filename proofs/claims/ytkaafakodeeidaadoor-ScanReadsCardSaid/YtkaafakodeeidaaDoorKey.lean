/-
  Layer 5's keywords and operators: which a text is.
-/
import Derived.Test.YtkaafakodeeidaaDoorWrd
import Derived.Test.YtkaafakodeeidaaDoorShelf
import Derived.Deep.Cut
namespace Go.Proofs.YtkaafakodeeidaaDoor
open Go.RowKit

def keysL : List ByteArray := [⟨#[98, 114, 101, 97, 107]⟩, ⟨#[99, 97, 115, 101]⟩, ⟨#[99, 104, 97, 110]⟩, ⟨#[99, 111, 110, 115, 116]⟩, ⟨#[99, 111, 110, 116, 105, 110, 117, 101]⟩, ⟨#[100, 101, 102, 97, 117, 108, 116]⟩, ⟨#[100, 101, 102, 101, 114]⟩, ⟨#[101, 108, 115, 101]⟩, ⟨#[102, 97, 108, 108, 116, 104, 114, 111, 117, 103, 104]⟩, ⟨#[102, 111, 114]⟩, ⟨#[102, 117, 110, 99]⟩, ⟨#[103, 111]⟩, ⟨#[103, 111, 116, 111]⟩, ⟨#[105, 102]⟩, ⟨#[105, 109, 112, 111, 114, 116]⟩, ⟨#[105, 110, 116, 101, 114, 102, 97, 99, 101]⟩, ⟨#[109, 97, 112]⟩, ⟨#[112, 97, 99, 107, 97, 103, 101]⟩, ⟨#[114, 97, 110, 103, 101]⟩, ⟨#[114, 101, 116, 117, 114, 110]⟩, ⟨#[115, 101, 108, 101, 99, 116]⟩, ⟨#[115, 116, 114, 117, 99, 116]⟩, ⟨#[115, 119, 105, 116, 99, 104]⟩, ⟨#[116, 121, 112, 101]⟩, ⟨#[118, 97, 114]⟩]
def opsL : List ByteArray := [⟨#[46, 46, 46]⟩, ⟨#[60, 60]⟩, ⟨#[62, 62]⟩, ⟨#[38, 38]⟩, ⟨#[124, 124]⟩, ⟨#[61, 61]⟩, ⟨#[33, 61]⟩, ⟨#[60, 61]⟩, ⟨#[62, 61]⟩, ⟨#[58, 61]⟩, ⟨#[43]⟩, ⟨#[45]⟩, ⟨#[42]⟩, ⟨#[47]⟩, ⟨#[37]⟩, ⟨#[38]⟩, ⟨#[124]⟩, ⟨#[94]⟩, ⟨#[60]⟩, ⟨#[62]⟩, ⟨#[33]⟩, ⟨#[40]⟩, ⟨#[41]⟩, ⟨#[91]⟩, ⟨#[93]⟩, ⟨#[123]⟩, ⟨#[125]⟩, ⟨#[44]⟩, ⟨#[46]⟩, ⟨#[59]⟩, ⟨#[61]⟩, ⟨#[58]⟩, ⟨#[126]⟩]
/-- What the program's tables hold. -/
structure Laid (w : World) : Prop where
  keys : ∀ j, j < 25 → w.cell? ⟨0, j, none⟩ = some (.string (keysL.getD j ByteArray.empty))
  ops : ∀ j, j < 33 → w.cell? ⟨1, j, none⟩ = some (.string (opsL.getD j ByteArray.empty))
  max : ∃ m, w.cell? ⟨2, 0, none⟩ = some (.int .i64 m)
  lt : 2 < w.heap.size
theorem Laid.below {w w' : World} (h : Laid w) (hb : Below w.heap.size w w') : Laid w' := by
  have hl := h.lt
  obtain ⟨m, hm⟩ := h.max
  exact ⟨fun j hj => (hb.cell (p := ⟨0, j, none⟩) (by show 0 < _; omega)).trans (h.keys j hj), fun j hj => (hb.cell (p := ⟨1, j, none⟩) (by show 1 < _; omega)).trans (h.ops j hj), ⟨m, (hb.cell (p := ⟨2, 0, none⟩) hl).trans hm⟩, Nat.lt_of_lt_of_le hl hb.size⟩
def keyB (s : ByteArray) : Bool := Go.Lib.containsS keysL s
def opB (s : ByteArray) : Bool := Go.Lib.containsS opsL s
set_option maxHeartbeats 400000 in
theorem key_any (s : ByteArray) (w : World) (h : Laid w) : Calls Tryd.prog 8 #[.string s] w (RetB (keyB s) w) := by
  have hc := Tryd.slices_Contains_string 0 0 25 25 keysL s w (by decide) (by decide) (fun j hj => by rw [Nat.zero_add]; exact h.keys j hj)
  rw [show keysL.take 25 = keysL from rfl] at hc
  have HC := Lib.hid hc; clear hc
  go_enter Tryd.func8, Tryd.ntmps8
  go_wp2_with fail
  refine HC.out.mono ?_
  rintro e w1 ⟨rfl, rfl⟩
  go_wp2
  go_ret
  exact ⟨rfl, rfl⟩
set_option maxHeartbeats 400000 in
theorem op_any (s : ByteArray) (w : World) (h : Laid w) : Calls Tryd.prog 10 #[.string s] w (RetB (opB s) w) := by
  have hc := Tryd.slices_Contains_string 1 0 33 33 opsL s w (by decide) (by decide) (fun j hj => by rw [Nat.zero_add]; exact h.ops j hj)
  rw [show opsL.take 33 = opsL from rfl] at hc
  have HC := Lib.hid hc; clear hc
  go_enter Tryd.func10, Tryd.ntmps10
  go_wp2_with fail
  refine HC.out.mono ?_
  rintro e w1 ⟨rfl, rfl⟩
  go_wp2
  go_ret
  exact ⟨rfl, rfl⟩
def refOpsL : List ByteArray := [⟨#[43]⟩, ⟨#[45]⟩, ⟨#[42]⟩, ⟨#[47]⟩, ⟨#[37]⟩, ⟨#[38]⟩, ⟨#[124]⟩, ⟨#[94]⟩, ⟨#[60, 60]⟩, ⟨#[62, 62]⟩, ⟨#[38, 38]⟩, ⟨#[124, 124]⟩, ⟨#[61, 61]⟩, ⟨#[33, 61]⟩, ⟨#[60]⟩, ⟨#[60, 61]⟩, ⟨#[62]⟩, ⟨#[62, 61]⟩, ⟨#[33]⟩, ⟨#[40]⟩, ⟨#[41]⟩, ⟨#[91]⟩, ⟨#[93]⟩, ⟨#[123]⟩, ⟨#[125]⟩, ⟨#[44]⟩, ⟨#[46]⟩, ⟨#[59]⟩, ⟨#[61]⟩, ⟨#[58, 61]⟩, ⟨#[58]⟩, ⟨#[126]⟩, ⟨#[46, 46, 46]⟩]
theorem str_beq (a b : ByteArray) : (a.toList == b.toList) = decide (a = b) := by
  rw [Bool.eq_iff_iff, beq_iff_eq, decide_eq_true_iff]
  constructor
  · intro h
    rw [ByteArray.toList_eq, ByteArray.toList_eq] at h
    cases a; cases b
    congr 1
    exact Array.toList_inj.1 h
  · rintro rfl; rfl
theorem among {L : List ByteArray} {s : ByteArray} : s ∈ L ↔ ∃ j, j < L.length ∧ L.getD j ByteArray.empty = s := by
  rw [List.mem_iff_getElem]
  constructor
  · rintro ⟨j, h, e⟩
    exact ⟨j, h, by rw [List.getD_eq_getElem?_getD, List.getElem?_eq_getElem h]; exact e⟩
  · rintro ⟨j, h, e⟩
    refine ⟨j, h, ?_⟩
    rw [List.getD_eq_getElem?_getD, List.getElem?_eq_getElem h] at e
    exact e
theorem keyB_yes {s : ByteArray} (h : ∃ j, j < 25 ∧ keysL.getD j ByteArray.empty = s) : keyB s = true := (Go.Lib.containsS_iff _ _).2 (among.2 h)
theorem keyB_no {s : ByteArray} (h : ∀ j, j < 25 → keysL.getD j ByteArray.empty ≠ s) : keyB s = false := by
  cases hk : keyB s
  · rfl
  · obtain ⟨j, h1, h2⟩ := among.1 ((Go.Lib.containsS_iff _ _).1 hk)
    exact absurd h2 (h j h1)
theorem mem_data {L : List ByteArray} {s : ByteArray} : s ∈ L ↔ s.data.toList ∈ L.map (fun x => x.data.toList) := by
  rw [List.mem_map]
  constructor
  · intro h; exact ⟨s, h, rfl⟩
  · rintro ⟨x, hx, e⟩
    have h : x = s := by
      cases x; cases s
      congr 1
      exact Array.toList_inj.1 e
    rw [← h]; exact hx
theorem ops_same (s : ByteArray) : s ∈ opsL ↔ s ∈ refOpsL := by
  rw [mem_data, mem_data]
  have h1 : ∀ x ∈ opsL.map (fun x => x.data.toList), x ∈ refOpsL.map (fun x => x.data.toList) := by decide
  have h2 : ∀ x ∈ refOpsL.map (fun x => x.data.toList), x ∈ opsL.map (fun x => x.data.toList) := by decide
  exact ⟨h1 _, h2 _⟩
theorem opB_yes {s : ByteArray} (h : ∃ j, j < 33 ∧ refOpsL.getD j ByteArray.empty = s) : opB s = true := (Go.Lib.containsS_iff _ _).2 ((ops_same s).2 (among.2 h))
theorem opB_no {s : ByteArray} (h : ∀ j, j < 33 → refOpsL.getD j ByteArray.empty ≠ s) : opB s = false := by
  cases hk : opB s
  · rfl
  · obtain ⟨j, h1, h2⟩ := among.1 ((ops_same s).1 ((Go.Lib.containsS_iff _ _).1 hk))
    exact absurd h2 (h j h1)
set_option maxRecDepth 100000 in
set_option maxHeartbeats 1000000 in
theorem refKey_any (s : ByteArray) (w : World) : Calls Tryd.prog 9 #[.string s] w (fun e w' => e = .returned (.bool (keyB s)) ∧ Below w.heap.size w w') := by
  obtain ⟨wa, hwa⟩ : ∃ wa, wa = w.alloc (.cells #[.string ⟨#[98, 114, 101, 97, 107]⟩, .string ⟨#[99, 97, 115, 101]⟩, .string ⟨#[99, 104, 97, 110]⟩, .string ⟨#[99, 111, 110, 115, 116]⟩, .string ⟨#[99, 111, 110, 116, 105, 110, 117, 101]⟩, .string ⟨#[100, 101, 102, 97, 117, 108, 116]⟩, .string ⟨#[100, 101, 102, 101, 114]⟩, .string ⟨#[101, 108, 115, 101]⟩, .string ⟨#[102, 97, 108, 108, 116, 104, 114, 111, 117, 103, 104]⟩, .string ⟨#[102, 111, 114]⟩, .string ⟨#[102, 117, 110, 99]⟩, .string ⟨#[103, 111]⟩, .string ⟨#[103, 111, 116, 111]⟩, .string ⟨#[105, 102]⟩, .string ⟨#[105, 109, 112, 111, 114, 116]⟩, .string ⟨#[105, 110, 116, 101, 114, 102, 97, 99, 101]⟩, .string ⟨#[109, 97, 112]⟩, .string ⟨#[112, 97, 99, 107, 97, 103, 101]⟩, .string ⟨#[114, 97, 110, 103, 101]⟩, .string ⟨#[114, 101, 116, 117, 114, 110]⟩, .string ⟨#[115, 101, 108, 101, 99, 116]⟩, .string ⟨#[115, 116, 114, 117, 99, 116]⟩, .string ⟨#[115, 119, 105, 116, 99, 104]⟩, .string ⟨#[116, 121, 112, 101]⟩, .string ⟨#[118, 97, 114]⟩] 9) := ⟨_, rfl⟩
  have hbl : Below w.heap.size w wa := by rw [hwa]; exact bel_alloc (bel_refl _) _
  have hcell : ∀ i, i < 25 → wa.cell? ⟨w.heap.size, i, none⟩ = some (.string (keysL.getD i ByteArray.empty)) := by
    have hz := Blk.new w 9 #[.string ⟨#[98, 114, 101, 97, 107]⟩, .string ⟨#[99, 97, 115, 101]⟩, .string ⟨#[99, 104, 97, 110]⟩, .string ⟨#[99, 111, 110, 115, 116]⟩, .string ⟨#[99, 111, 110, 116, 105, 110, 117, 101]⟩, .string ⟨#[100, 101, 102, 97, 117, 108, 116]⟩, .string ⟨#[100, 101, 102, 101, 114]⟩, .string ⟨#[101, 108, 115, 101]⟩, .string ⟨#[102, 97, 108, 108, 116, 104, 114, 111, 117, 103, 104]⟩, .string ⟨#[102, 111, 114]⟩, .string ⟨#[102, 117, 110, 99]⟩, .string ⟨#[103, 111]⟩, .string ⟨#[103, 111, 116, 111]⟩, .string ⟨#[105, 102]⟩, .string ⟨#[105, 109, 112, 111, 114, 116]⟩, .string ⟨#[105, 110, 116, 101, 114, 102, 97, 99, 101]⟩, .string ⟨#[109, 97, 112]⟩, .string ⟨#[112, 97, 99, 107, 97, 103, 101]⟩, .string ⟨#[114, 97, 110, 103, 101]⟩, .string ⟨#[114, 101, 116, 117, 114, 110]⟩, .string ⟨#[115, 101, 108, 101, 99, 116]⟩, .string ⟨#[115, 116, 114, 117, 99, 116]⟩, .string ⟨#[115, 119, 105, 116, 99, 104]⟩, .string ⟨#[116, 121, 112, 101]⟩, .string ⟨#[118, 97, 114]⟩]
    rw [← hwa] at hz
    intro i hi
    rw [hz.cell i]
    match i, hi with
    | 0, _ => rfl
    | 1, _ => rfl
    | 2, _ => rfl
    | 3, _ => rfl
    | 4, _ => rfl
    | 5, _ => rfl
    | 6, _ => rfl
    | 7, _ => rfl
    | 8, _ => rfl
    | 9, _ => rfl
    | 10, _ => rfl
    | 11, _ => rfl
    | 12, _ => rfl
    | 13, _ => rfl
    | 14, _ => rfl
    | 15, _ => rfl
    | 16, _ => rfl
    | 17, _ => rfl
    | 18, _ => rfl
    | 19, _ => rfl
    | 20, _ => rfl
    | 21, _ => rfl
    | 22, _ => rfl
    | 23, _ => rfl
    | 24, _ => rfl
    | i + 25, h => exact absurd h (by omega)
  have HC := Lib.hid (And.intro hcell hbl); clear hcell hbl
  go_enter Tryd.func9, Tryd.ntmps9
  go_wp2_with fail
  rw [← hwa]
  clear hwa
  go_loopw [4, 7] (fun _ iv wr => ∃ i : Nat, iv = .int .i64 (i : Int) ∧ i ≤ 25 ∧ wr = wa ∧ ∀ j, j < i → keysL.getD j ByteArray.empty ≠ s) (fun _ iv _ => 25 - (intOf iv).toNat)
  case atStart => exact ⟨0, rfl, Nat.zero_le _, rfl, fun j h => absurd h (Nat.not_lt_zero j)⟩
  case round =>
    obtain ⟨i, rfl, hi, rfl, hne⟩ := hrel
    have HN := Lib.hid hne; clear hne
    by_cases hlt : i < 25
    · have hlt' : (i : Int) < 25 := by omega
      have hcl := HC.out.1 i hlt
      obtain ⟨k, hk⟩ : ∃ k, keysL.getD i ByteArray.empty = k := ⟨_, rfl⟩
      rw [hk] at hcl
      have HK := Lib.hid hk; clear hk
      by_cases hks : k = s
      · have q1 : (k.toList == s.toList) = true := by rw [str_beq]; exact decide_eq_true hks
        have HS := Lib.hid hks; clear hks
        go_wp2
        go_ret
        refine ⟨?_, HC.out.2⟩
        rw [keyB_yes ⟨i, hlt, HK.out.trans HS.out⟩]
        rfl
      · have q1 : (k.toList == s.toList) = false := by rw [str_beq]; exact decide_eq_false hks
        have HS := Lib.hid hks; clear hks
        go_wp2
        go_roundw
        case rel => exact ⟨i + 1, by go_num, by omega, by first | rfl | trivial, fun j hj => by
          rcases Nat.lt_or_eq_of_le (Nat.le_of_lt_succ hj) with h | rfl
          · exact HN.out j h
          · rw [HK.out]; exact HS.out⟩
        case measure => simp [intOf]; omega
    · have hie : i = 25 := by omega
      subst hie
      go_wp2
      go_ret
      refine ⟨?_, HC.out.2⟩
      rw [keyB_no HN.out]
      rfl
set_option maxRecDepth 100000 in
set_option maxHeartbeats 1000000 in
theorem refOp_any (s : ByteArray) (w : World) : Calls Tryd.prog 11 #[.string s] w (fun e w' => e = .returned (.bool (opB s)) ∧ Below w.heap.size w w') := by
  obtain ⟨wa, hwa⟩ : ∃ wa, wa = w.alloc (.cells #[.string ⟨#[43]⟩, .string ⟨#[45]⟩, .string ⟨#[42]⟩, .string ⟨#[47]⟩, .string ⟨#[37]⟩, .string ⟨#[38]⟩, .string ⟨#[124]⟩, .string ⟨#[94]⟩, .string ⟨#[60, 60]⟩, .string ⟨#[62, 62]⟩, .string ⟨#[38, 38]⟩, .string ⟨#[124, 124]⟩, .string ⟨#[61, 61]⟩, .string ⟨#[33, 61]⟩, .string ⟨#[60]⟩, .string ⟨#[60, 61]⟩, .string ⟨#[62]⟩, .string ⟨#[62, 61]⟩, .string ⟨#[33]⟩, .string ⟨#[40]⟩, .string ⟨#[41]⟩, .string ⟨#[91]⟩, .string ⟨#[93]⟩, .string ⟨#[123]⟩, .string ⟨#[125]⟩, .string ⟨#[44]⟩, .string ⟨#[46]⟩, .string ⟨#[59]⟩, .string ⟨#[61]⟩, .string ⟨#[58, 61]⟩, .string ⟨#[58]⟩, .string ⟨#[126]⟩, .string ⟨#[46, 46, 46]⟩] 9) := ⟨_, rfl⟩
  have hbl : Below w.heap.size w wa := by rw [hwa]; exact bel_alloc (bel_refl _) _
  have hcell : ∀ i, i < 33 → wa.cell? ⟨w.heap.size, i, none⟩ = some (.string (refOpsL.getD i ByteArray.empty)) := by
    have hz := Blk.new w 9 #[.string ⟨#[43]⟩, .string ⟨#[45]⟩, .string ⟨#[42]⟩, .string ⟨#[47]⟩, .string ⟨#[37]⟩, .string ⟨#[38]⟩, .string ⟨#[124]⟩, .string ⟨#[94]⟩, .string ⟨#[60, 60]⟩, .string ⟨#[62, 62]⟩, .string ⟨#[38, 38]⟩, .string ⟨#[124, 124]⟩, .string ⟨#[61, 61]⟩, .string ⟨#[33, 61]⟩, .string ⟨#[60]⟩, .string ⟨#[60, 61]⟩, .string ⟨#[62]⟩, .string ⟨#[62, 61]⟩, .string ⟨#[33]⟩, .string ⟨#[40]⟩, .string ⟨#[41]⟩, .string ⟨#[91]⟩, .string ⟨#[93]⟩, .string ⟨#[123]⟩, .string ⟨#[125]⟩, .string ⟨#[44]⟩, .string ⟨#[46]⟩, .string ⟨#[59]⟩, .string ⟨#[61]⟩, .string ⟨#[58, 61]⟩, .string ⟨#[58]⟩, .string ⟨#[126]⟩, .string ⟨#[46, 46, 46]⟩]
    rw [← hwa] at hz
    intro i hi
    rw [hz.cell i]
    match i, hi with
    | 0, _ => rfl
    | 1, _ => rfl
    | 2, _ => rfl
    | 3, _ => rfl
    | 4, _ => rfl
    | 5, _ => rfl
    | 6, _ => rfl
    | 7, _ => rfl
    | 8, _ => rfl
    | 9, _ => rfl
    | 10, _ => rfl
    | 11, _ => rfl
    | 12, _ => rfl
    | 13, _ => rfl
    | 14, _ => rfl
    | 15, _ => rfl
    | 16, _ => rfl
    | 17, _ => rfl
    | 18, _ => rfl
    | 19, _ => rfl
    | 20, _ => rfl
    | 21, _ => rfl
    | 22, _ => rfl
    | 23, _ => rfl
    | 24, _ => rfl
    | 25, _ => rfl
    | 26, _ => rfl
    | 27, _ => rfl
    | 28, _ => rfl
    | 29, _ => rfl
    | 30, _ => rfl
    | 31, _ => rfl
    | 32, _ => rfl
    | i + 33, h => exact absurd h (by omega)
  have HC := Lib.hid (And.intro hcell hbl); clear hcell hbl
  go_enter Tryd.func11, Tryd.ntmps11
  go_wp2_with fail
  rw [← hwa]
  clear hwa
  go_loopw [4, 7] (fun _ iv wr => ∃ i : Nat, iv = .int .i64 (i : Int) ∧ i ≤ 33 ∧ wr = wa ∧ ∀ j, j < i → refOpsL.getD j ByteArray.empty ≠ s) (fun _ iv _ => 33 - (intOf iv).toNat)
  case atStart => exact ⟨0, rfl, Nat.zero_le _, rfl, fun j h => absurd h (Nat.not_lt_zero j)⟩
  case round =>
    obtain ⟨i, rfl, hi, rfl, hne⟩ := hrel
    have HN := Lib.hid hne; clear hne
    by_cases hlt : i < 33
    · have hlt' : (i : Int) < 33 := by omega
      have hcl := HC.out.1 i hlt
      obtain ⟨k, hk⟩ : ∃ k, refOpsL.getD i ByteArray.empty = k := ⟨_, rfl⟩
      rw [hk] at hcl
      have HK := Lib.hid hk; clear hk
      by_cases hks : k = s
      · have q1 : (k.toList == s.toList) = true := by rw [str_beq]; exact decide_eq_true hks
        have HS := Lib.hid hks; clear hks
        go_wp2
        go_ret
        refine ⟨?_, HC.out.2⟩
        rw [opB_yes ⟨i, hlt, HK.out.trans HS.out⟩]
        rfl
      · have q1 : (k.toList == s.toList) = false := by rw [str_beq]; exact decide_eq_false hks
        have HS := Lib.hid hks; clear hks
        go_wp2
        go_roundw
        case rel => exact ⟨i + 1, by go_num, by omega, by first | rfl | trivial, fun j hj => by
          rcases Nat.lt_or_eq_of_le (Nat.le_of_lt_succ hj) with h | rfl
          · exact HN.out j h
          · rw [HK.out]; exact HS.out⟩
        case measure => simp [intOf]; omega
    · have hie : i = 33 := by omega
      subst hie
      go_wp2
      go_ret
      refine ⟨?_, HC.out.2⟩
      rw [opB_no HN.out]
      rfl
end Go.Proofs.YtkaafakodeeidaaDoor
