/-
  digit, Parse, walked.
-/
import Derived.Test.YtmbbdjpnecjleaaDoorNText
import Derived.Deep.RegionHeld3
import Derived.Lib.ConvBytes
namespace Go.Proofs.YtmbbdjpnecjleaaDoor
open Go.RowKit

set_option maxHeartbeats 400000 in
theorem text_wrong (A : Option Addr) (cap : Nat) (xs : List Nat) (w : World) (h : RdL w A xs) (hl : xs.length ≤ 18) (hr : rightL xs = false) :
    Calls Tryd.prog 9 #[.slice A xs.length cap] w (RetSE ByteArray.empty 1 w) := by
  have H := Lib.hid h; clear h
  go_enter Tryd.func9, Tryd.ntmps9
  go_wp2_with fail
  refine (right_any A cap xs _ H.out (by omega)).mono ?_
  rintro e w1 ⟨rfl, m1, rfl⟩
  rw [hr]
  go_wp2
  go_ret2
  exact ⟨rfl, bel_drewN (bel_refl _) _⟩

/-- A byte's number; 99, if it is none. -/
def digV (c : Nat) : Nat := if 48 ≤ c ∧ c ≤ 57 then c - 48 else if 97 ≤ c ∧ c ≤ 102 then c - 87 else if 65 ≤ c ∧ c ≤ 70 then c - 55 else 99
theorem digV_le (c : Nat) : digV c ≤ 99 := by unfold digV; (repeat' split) <;> omega

theorem digV_arms (c : Nat) (hc : c < 256) : (48 ≤ c ∧ c ≤ 57 ∧ digV c = c - 48) ∨ (97 ≤ c ∧ c ≤ 102 ∧ digV c = c - 87) ∨ (65 ≤ c ∧ c ≤ 70 ∧ digV c = c - 55) ∨ ((c < 48 ∨ (57 < c ∧ c < 65) ∨ (70 < c ∧ c < 97) ∨ 102 < c) ∧ digV c = 99) := by
  unfold digV
  (repeat' split) <;> omega
set_option maxHeartbeats 1000000 in
theorem digit_any (c : Nat) (hc : c < 256) (w : World) : Calls Tryd.prog 39 #[.int .u8 c] w (RetI (digV c) w) := by
  rcases digV_arms c hc with ⟨a, b, e⟩ | ⟨a, b, e⟩ | ⟨a, b, e⟩ | ⟨a, e⟩
  · rw [e]
    have a' : (48 : Int) ≤ (c : Int) := by omega
    have b' : (c : Int) ≤ 57 := by omega
    have s1 : IntKind.u8.wrap ((c : Int) - 48) = ((c - 48 : Nat) : Int) := by rw [IntKind.wrap_u8']; omega
    clear hc a b e
    go_enter Tryd.func39, Tryd.ntmps39
    go_wp2
    go_ret
    exact ⟨rfl, rfl⟩
  · rw [e]
    have a' : (97 : Int) ≤ (c : Int) := by omega
    have b' : (c : Int) ≤ 102 := by omega
    have b2 : ¬ (c : Int) ≤ 57 := by omega
    have s1 : IntKind.u8.wrap ((c : Int) - 97) = ((c - 97 : Nat) : Int) := by rw [IntKind.wrap_u8']; omega
    have s2 : IntKind.i64.wrap (((c - 97 : Nat) : Int) + 10) = ((c - 87 : Nat) : Int) := by rw [IntKind.wrap_i64]; omega
    clear hc a b e
    go_enter Tryd.func39, Tryd.ntmps39
    go_wp2
    go_ret
    exact ⟨by go_num, rfl⟩
  · rw [e]
    have a' : (65 : Int) ≤ (c : Int) := by omega
    have b' : (c : Int) ≤ 70 := by omega
    have b2 : ¬ (c : Int) ≤ 57 := by omega
    have b3 : ¬ (97 : Int) ≤ (c : Int) := by omega
    have s1 : IntKind.u8.wrap ((c : Int) - 65) = ((c - 65 : Nat) : Int) := by rw [IntKind.wrap_u8']; omega
    have s2 : IntKind.i64.wrap (((c - 65 : Nat) : Int) + 10) = ((c - 55 : Nat) : Int) := by rw [IntKind.wrap_i64]; omega
    clear hc a b e
    go_enter Tryd.func39, Tryd.ntmps39
    go_wp2
    go_ret
    exact ⟨by go_num, rfl⟩
  · rw [e]
    rcases a with a | ⟨a, b⟩ | ⟨a, b⟩ | a
    · have b1 : ¬ (48 : Int) ≤ (c : Int) := by omega
      have b2 : ¬ (97 : Int) ≤ (c : Int) := by omega
      have b3 : ¬ (65 : Int) ≤ (c : Int) := by omega
      clear hc a e
      go_enter Tryd.func39, Tryd.ntmps39
      go_wp2
      go_ret
      exact ⟨rfl, rfl⟩
    · have b1 : ¬ (c : Int) ≤ 57 := by omega
      have b2 : ¬ (97 : Int) ≤ (c : Int) := by omega
      have b3 : ¬ (65 : Int) ≤ (c : Int) := by omega
      clear hc a b e
      go_enter Tryd.func39, Tryd.ntmps39
      go_wp2
      go_ret
      exact ⟨rfl, rfl⟩
    · have b1 : ¬ (c : Int) ≤ 57 := by omega
      have b2 : ¬ (97 : Int) ≤ (c : Int) := by omega
      have b3 : ¬ (c : Int) ≤ 70 := by omega
      clear hc a b e
      go_enter Tryd.func39, Tryd.ntmps39
      go_wp2
      go_ret
      exact ⟨rfl, rfl⟩
    · have b1 : ¬ (c : Int) ≤ 57 := by omega
      have b2 : ¬ (c : Int) ≤ 102 := by omega
      have b3 : ¬ (c : Int) ≤ 70 := by omega
      clear hc a e
      go_enter Tryd.func39, Tryd.ntmps39
      go_wp2
      go_ret
      exact ⟨rfl, rfl⟩
set_option maxHeartbeats 1000000 in
theorem refDigit_any (c : Nat) (hc : c < 256) (w : World) : Calls Tryd.prog 46 #[.int .u8 c] w (RetI (digV c) w) := by
  rcases digV_arms c hc with ⟨a, b, e⟩ | ⟨a, b, e⟩ | ⟨a, b, e⟩ | ⟨a, e⟩
  · rw [e]
    have a' : (48 : Int) ≤ (c : Int) := by omega
    have b' : (c : Int) ≤ 57 := by omega
    have s1 : IntKind.u8.wrap ((c : Int) - 48) = ((c - 48 : Nat) : Int) := by rw [IntKind.wrap_u8']; omega
    clear hc a b e
    go_enter Tryd.func46, Tryd.ntmps46
    go_wp2
    go_ret
    exact ⟨rfl, rfl⟩
  · rw [e]
    have a' : (97 : Int) ≤ (c : Int) := by omega
    have b' : (c : Int) ≤ 102 := by omega
    have b2 : ¬ (c : Int) ≤ 57 := by omega
    have s1 : IntKind.u8.wrap ((c : Int) - 97) = ((c - 97 : Nat) : Int) := by rw [IntKind.wrap_u8']; omega
    have s2 : IntKind.i64.wrap (((c - 97 : Nat) : Int) + 10) = ((c - 87 : Nat) : Int) := by rw [IntKind.wrap_i64]; omega
    clear hc a b e
    go_enter Tryd.func46, Tryd.ntmps46
    go_wp2
    go_ret
    exact ⟨by go_num, rfl⟩
  · rw [e]
    have a' : (65 : Int) ≤ (c : Int) := by omega
    have b' : (c : Int) ≤ 70 := by omega
    have b2 : ¬ (c : Int) ≤ 57 := by omega
    have b3 : ¬ (97 : Int) ≤ (c : Int) := by omega
    have s1 : IntKind.u8.wrap ((c : Int) - 65) = ((c - 65 : Nat) : Int) := by rw [IntKind.wrap_u8']; omega
    have s2 : IntKind.i64.wrap (((c - 65 : Nat) : Int) + 10) = ((c - 55 : Nat) : Int) := by rw [IntKind.wrap_i64]; omega
    clear hc a b e
    go_enter Tryd.func46, Tryd.ntmps46
    go_wp2
    go_ret
    exact ⟨by go_num, rfl⟩
  · rw [e]
    rcases a with a | ⟨a, b⟩ | ⟨a, b⟩ | a
    · have b1 : ¬ (48 : Int) ≤ (c : Int) := by omega
      have b2 : ¬ (97 : Int) ≤ (c : Int) := by omega
      have b3 : ¬ (65 : Int) ≤ (c : Int) := by omega
      clear hc a e
      go_enter Tryd.func46, Tryd.ntmps46
      go_wp2
      go_ret
      exact ⟨rfl, rfl⟩
    · have b1 : ¬ (c : Int) ≤ 57 := by omega
      have b2 : ¬ (97 : Int) ≤ (c : Int) := by omega
      have b3 : ¬ (65 : Int) ≤ (c : Int) := by omega
      clear hc a b e
      go_enter Tryd.func46, Tryd.ntmps46
      go_wp2
      go_ret
      exact ⟨rfl, rfl⟩
    · have b1 : ¬ (c : Int) ≤ 57 := by omega
      have b2 : ¬ (97 : Int) ≤ (c : Int) := by omega
      have b3 : ¬ (c : Int) ≤ 70 := by omega
      clear hc a b e
      go_enter Tryd.func46, Tryd.ntmps46
      go_wp2
      go_ret
      exact ⟨rfl, rfl⟩
    · have b1 : ¬ (c : Int) ≤ 57 := by omega
      have b2 : ¬ (c : Int) ≤ 102 := by omega
      have b3 : ¬ (c : Int) ≤ 70 := by omega
      clear hc a e
      go_enter Tryd.func46, Tryd.ntmps46
      go_wp2
      go_ret
      exact ⟨rfl, rfl⟩

/-- The table of bases. -/
structure Bases (w : World) : Prop where
  lt : 0 < w.heap.size
  cell : ∀ j, j < 4 → w.cell? ⟨0, j, none⟩ = some (.int .i64 (([2, 8, 10, 16] : List Int).getD j 0))
theorem Bases.drewN {w : World} (h : Bases w) (n : Nat) : Bases (w.drewN n) := ⟨h.lt, h.cell⟩
theorem Bases.below {w w' : World} (h : Bases w) (hb : Below w.heap.size w w') : Bases w' :=
  ⟨Nat.lt_of_lt_of_le h.lt hb.size, fun j hj => (hb.cell (p := ⟨0, j, none⟩) h.lt).trans (h.cell j hj)⟩

set_option maxHeartbeats 400000 in
theorem odd_any (c base b : Nat) (hc : c < 256) (w : World) (h : w.cell? ⟨b, 0, none⟩ = some (.int .i64 (base : Int))) :
    Calls Tryd.prog 38 #[.int .u8 c, .pointer (some ⟨b, 0, none⟩)] w (RetBD (decide (base ≤ digV c)) w) := by
  have HC := Lib.hid hc; clear hc
  go_enter Tryd.func38, Tryd.ntmps38
  go_wp2
  go_quiet (first | (go_at_call 39; exact Calls.quiet_of_same (digit_any c HC.out _)))
  go_wp2
  go_ret
  refine ⟨ret_bool ?_, _, rfl⟩
  first
    | rfl
    | (rw [Bool.eq_iff_iff]
       first | done | simp)

/-- Is a byte of a row none of the base? -/
def oddIn (base : Nat) (cs : List Nat) : Bool := cs.any (fun c => decide (base ≤ digV c))

set_option maxRecDepth 100000 in
set_option maxHeartbeats 1000000 in
theorem indexFunc_any (A : Option Addr) (cap base b : Nat) (cs : List Nat) (w : World) (hl : cs.length ≤ 1000) (hcs : ∀ c ∈ cs, c < 256) (hr : Rd w A cs.length (fun k => .int .u8 (cs.getD k 0 : Nat))) (h : w.cell? ⟨b, 0, none⟩ = some (.int .i64 (base : Int))) :
    Calls Tryd.prog 56 #[.slice A cs.length cap, .func (.func 38) #[] #[.pointer (some ⟨b, 0, none⟩)]] w
      (fun e w' => (∃ i : Int, e = .returned (.int .i64 i) ∧ decide (0 ≤ i) = oddIn base cs) ∧ ∃ n, w' = w.drewN n) := by
  have H := Lib.hid h; clear h
  have R := Lib.hid hr; clear hr
  have HC := Lib.hid hcs; clear hcs
  go_enter Tryd.func56, Tryd.ntmps56
  go_wp2
  go_loopw [8] (fun i wr => ∃ k : Nat, i = .int .i64 (k : Int) ∧ k ≤ cs.length ∧ oddIn base cs = oddIn base (cs.drop k) ∧ ∃ n, wr = w.drewN n) (fun i _ => cs.length - (intOf i).toNat)
  case atStart => exact ⟨0, rfl, Nat.zero_le _, rfl, 0, rfl⟩
  case round =>
    obtain ⟨k, rfl, hk, hrel, n, rfl⟩ := hrel
    have HR := Lib.hid hrel; clear hrel
    by_cases hlt : k < cs.length
    · have hlt' : (k : Int) < (cs.length : Int) := by omega
      obtain ⟨g, off, rfl, hg, hcell⟩ := R.out (by omega)
      have hc1 : w.cell? ⟨g, off + k, none⟩ = some (.int .u8 ((cs.getD k 0 : Nat) : Int)) := hcell k hlt
      clear hcell
      have hstep : Hid (oddIn base (cs.drop k) = (decide (base ≤ digV (cs.getD k 0)) || oddIn base (cs.drop (k + 1)))) := by
        show oddIn _ _ = _
        rw [List.drop_eq_getElem_cons hlt, List.getD_eq_getElem?_getD, List.getElem?_eq_getElem hlt]
        rfl
      have hc256 : Hid (cs.getD k 0 < 256) := by
        show cs.getD k 0 < 256
        rw [List.getD_eq_getElem?_getD, List.getElem?_eq_getElem hlt]
        exact HC.out _ (List.getElem_mem hlt)
      obtain ⟨c, hce⟩ : ∃ c, c = cs.getD k 0 := ⟨_, rfl⟩
      rw [← hce] at hc1 hstep hc256
      have HCE := Lib.hid hce; clear hce
      go_wp2_with (go_at_call 38; (with_reducible refine (odd_any c base b hc256.out _ ?_).mono ?_); exact H.out; rintro e w' ⟨rfl, n2, rfl⟩)
      · have hle : base ≤ digV c := by assumption
        go_ret
        refine ⟨⟨_, rfl, ?_⟩, _, rfl⟩
        rw [HR.out, hstep.out, decide_eq_true hle, decide_eq_true (by omega)]
        rfl
      · have hle : ¬ base ≤ digV c := by assumption
        go_roundw
        case rel => exact ⟨k + 1, by go_num, by omega, by rw [HR.out, hstep.out, decide_eq_false hle, Bool.false_or], _, rfl⟩
        case measure => simp [intOf]; omega
    · go_wp2
      go_ret
      refine ⟨⟨_, rfl, ?_⟩, n, rfl⟩
      rw [HR.out, List.drop_of_length_le (by omega)]
      rfl

set_option maxHeartbeats 400000 in
theorem containsFunc_any (A : Option Addr) (cap base b : Nat) (cs : List Nat) (w : World) (hl : cs.length ≤ 1000) (hcs : ∀ c ∈ cs, c < 256) (hr : Rd w A cs.length (fun k => .int .u8 (cs.getD k 0 : Nat))) (h : w.cell? ⟨b, 0, none⟩ = some (.int .i64 (base : Int))) :
    Calls Tryd.prog 41 #[.slice A cs.length cap, .func (.func 38) #[] #[.pointer (some ⟨b, 0, none⟩)]] w (RetBD (oddIn base cs) w) := by
  have H := Lib.hid h; clear h
  have R := Lib.hid hr; clear hr
  go_enter Tryd.func41, Tryd.ntmps41
  go_wp2_with fail
  refine (indexFunc_any A cap base b cs _ hl hcs R.out H.out).mono ?_
  rintro e w1 ⟨⟨i, rfl, hi⟩, n, rfl⟩
  go_wp2
  go_ret
  exact ⟨rfl, n, rfl⟩

/-- Is it one of the four? -/
def isBase (b : Int) : Bool := ([2, 8, 10, 16] : List Int).contains b
/-- A text's bytes as numbers. -/
def codes (s : ByteArray) : List Nat := s.data.toList.map UInt8.toNat
theorem codes_len (s : ByteArray) : (codes s).length = s.size := by unfold codes; rw [List.length_map]; exact Array.length_toList
theorem codes_lt (s : ByteArray) : ∀ c ∈ codes s, c < 256 := by
  intro c hc
  obtain ⟨b, _, rfl⟩ := List.mem_map.1 hc
  exact UInt8.toNat_lt b
theorem codes_get (s : ByteArray) {i : Nat} (h : i < s.size) : (s[i]'h).toNat = (codes s).getD i 0 := by
  have h2 : i < s.data.size := h
  simp only [codes, List.getD_eq_getElem?_getD, List.getElem?_map]
  rw [List.getElem?_eq_getElem (by simpa using h2)]
  simp
  rfl
/-- The number of a text to a base. -/
def numOf (base : Nat) (cs : List Nat) : Nat := cs.foldl (fun n c => n * base + digV c) 0
theorem numOf_succ (base : Nat) (cs : List Nat) {k : Nat} (h : k < cs.length) : numOf base (cs.take (k + 1)) = base * numOf base (cs.take k) + digV (cs.getD k 0) := by
  unfold numOf
  rw [List.take_succ_eq_append_getElem h, List.foldl_append, List.getD_eq_getElem?_getD, List.getElem?_eq_getElem h, Nat.mul_comm base]
  rfl
theorem numOf_le (base : Nat) (cs : List Nat) (k : Nat) (hb : 1 ≤ base) : numOf base (cs.take k) ≤ numOf base cs := by
  have h : ∀ (l : List Nat) (n : Nat), n ≤ l.foldl (fun n c => n * base + digV c) n := by
    intro l
    induction l with
    | nil => intro n; exact Nat.le_refl _
    | cons c r ih =>
      intro n
      rw [List.foldl_cons]
      refine Nat.le_trans ?_ (ih _)
      have : n * 1 ≤ n * base := Nat.mul_le_mul_left _ hb
      omega
  conv => rhs; rw [← List.take_append_drop k cs]
  unfold numOf
  rw [List.foldl_append]
  exact h _ _

theorem bel_bytes (w : World) (e : TypeId) (s : ByteArray) : Below w.heap.size w (Lib.bytesWorld w e s) :=
  Lib.below_freeze ((Below.refl _ _).drew.alloc (Nat.le_refl _) _) (Nat.le_refl _) _

theorem contains_is (b : Int) (x : Bool) (h : isBase b = x) (w : World) (ht : Bases w) :
    Calls Tryd.prog 40 #[.slice (some ⟨0, 0, none⟩) 4 4, .int .i64 b] w (RetB x w) := by
  rw [← h]
  exact Tryd.slices_Contains_int 0 0 4 4 [2, 8, 10, 16] b w (by decide) (by decide) (fun j hj => by rw [Nat.zero_add]; exact ht.cell j hj)

set_option maxRecDepth 100000 in
set_option maxHeartbeats 1000000 in
theorem parse_arg (s : ByteArray) (b : Int) (w : World) (hb : isBase b = false) (ht : Bases w) :
    Calls Tryd.prog 10 #[.string s, .int .i64 b] w (RetNE 0 1 w) := by
  have T := Lib.hid (ht.below (bel_alloc (bel_refl w) (.cells #[.int .i64 b] 3))); clear ht
  have HB := Lib.hid hb; clear hb
  go_enter Tryd.func10, Tryd.ntmps10
  go_wp2
  go_quiet (first | (go_at_call 40; exact Calls.quiet_of_same (contains_is b false HB.out _ (T.out.drewN _))))
  go_wp2
  go_ret2
  exact ⟨_, rfl, RdN.zero, bel_drewN (bel_alloc (bel_refl _) _) _⟩

theorem empty_bytes {s : ByteArray} : s.toList.isEmpty = decide (s.size = 0) := by
  rw [ByteArray.toList_eq, Bool.eq_iff_iff, List.isEmpty_iff, decide_eq_true_eq, ← List.length_eq_zero_iff]
  have : s.data.toList.length = s.size := Array.length_toList
  rw [this]

set_option maxRecDepth 100000 in
set_option maxHeartbeats 1000000 in
theorem parse_empty (s : ByteArray) (b : Nat) (w : World) (hb : isBase b = true) (ht : Bases w) (h0 : s.size = 0) :
    Calls Tryd.prog 10 #[.string s, .int .i64 b] w (RetNE 0 5 w) := by
  have T := Lib.hid (ht.below (bel_alloc (bel_refl w) (.cells #[.int .i64 b] 3))); clear ht
  have HB := Lib.hid hb; clear hb
  have e0 : s.toList.isEmpty = true := by rw [empty_bytes, decide_eq_true h0]
  have e0' : s.toList = [] := List.isEmpty_iff.1 e0
  have H0 := Lib.hid h0; clear h0
  go_enter Tryd.func10, Tryd.ntmps10
  go_wp2
  go_quiet (first | (go_at_call 40; exact Calls.quiet_of_same (contains_is b true HB.out _ (T.out.drewN _))))
  go_wp2
  go_ret2
  exact ⟨_, rfl, RdN.zero, bel_drewN (bel_alloc (bel_refl _) _) _⟩

/-- The number so far. -/
structure PaRel (W4 wr : World) (s : ByteArray) (b k : Nat) (v : Value) : Prop where
  old : Below W4.heap.size W4 wr
  num : RdN wr v (numOf b ((codes s).take k))
  small : numOf b ((codes s).take k) < Top

set_option maxRecDepth 100000 in
set_option maxHeartbeats 1000000 in
theorem parse_odd (s : ByteArray) (b : Nat) (w : World) (hb : isBase b = true) (ht : Bases w) (h0 : 0 < s.size) (hl : s.size ≤ 1000) (ho : oddIn b (codes s) = true) :
    Calls Tryd.prog 10 #[.string s, .int .i64 b] w (RetNE 0 5 w) := by
  have T := Lib.hid (ht.below (bel_alloc (bel_refl w) (.cells #[.int .i64 b] 3))); clear ht
  have HB := Lib.hid hb; clear hb
  have e0 : s.toList.isEmpty = false := by rw [empty_bytes]; exact decide_eq_false (by omega)
  have e0' : ¬ s.toList = [] := fun h => by rw [h] at e0; simp at e0
  have hconv := fun W => Lib.run_convert_string_bytes (P := Tryd.prog) W 9 58 5 s Tryd.underlying9 Tryd.underlying58 Tryd.underlying5
  have H0 := Lib.hid h0; clear h0
  have HO := Lib.hid ho; clear ho
  go_enter Tryd.func10, Tryd.ntmps10
  go_wp2
  go_quiet (first | (go_at_call 40; exact Calls.quiet_of_same (contains_is b true HB.out _ (T.out.drewN _))))
  go_wp2_with fail
  obtain ⟨W3, hW3⟩ : ∃ W3, W3 = (w.alloc (.cells #[.int .i64 (b : Int)] 3)).drewN nq := ⟨_, rfl⟩
  rw [← hW3]
  have hb3 : Below w.heap.size w W3 := by rw [hW3]; exact bel_drewN (bel_alloc (bel_refl w) _) nq
  have hz3 : W3.heap.size = w.heap.size + 1 := by rw [hW3]; simp
  have hc3 : W3.cell? ⟨w.heap.size, 0, none⟩ = some (.int .i64 (b : Int)) := by
    rw [hW3]
    exact (Blk.new w 3 #[.int .i64 (b : Int)]).cell 0
  obtain ⟨W4, hW4⟩ : ∃ W4, W4 = Lib.bytesWorld W3 5 s := ⟨_, rfl⟩
  rw [← hW4]
  have hb34 : Below W3.heap.size W3 W4 := by rw [hW4]; exact bel_bytes _ _ _
  have hc4 : W4.cell? ⟨w.heap.size, 0, none⟩ = some (.int .i64 (b : Int)) := (hb34.cell (p := ⟨w.heap.size, 0, none⟩) (by rw [hz3]; exact Nat.lt_succ_self _)).trans hc3
  have hz4 : W4.heap.size = w.heap.size + 2 := by rw [hW4, Lib.bytesWorld_size, hz3]
  have hr4 : Rd W4 (some ⟨w.heap.size + 1, 0, none⟩) (codes s).length (fun k => .int .u8 ((codes s).getD k 0 : Nat)) := fun _ =>
    ⟨w.heap.size + 1, 0, rfl, by rw [hz4]; omega, fun k hk => by
      rw [codes_len] at hk
      have h1 := Lib.bytesWorld_cell W3 5 s k hk
      rw [hz3, ← hW4] at h1
      rw [Nat.zero_add, h1]
      congr 2
      have hk2 : k < s.data.toList.length := by rw [Array.length_toList]; exact hk
      simp only [codes, List.getD_eq_getElem?_getD, List.getElem?_map, List.getElem?_eq_getElem hk2]
      rfl⟩
  have HB4 := Lib.hid (bel_trans hb3 hb34)
  have HZ := Lib.hid hz4
  have HC4 := Lib.hid hc4
  have hcf := containsFunc_any (some ⟨w.heap.size + 1, 0, none⟩) (grownCap W3 s.size 0 5) b w.heap.size (codes s) W4 (by rw [codes_len]; exact hl) (codes_lt s) hr4 hc4
  rw [codes_len] at hcf
  clear hb3 hz3 hc3 hb34 hc4 hz4 hr4 hW4 hW3 T HB hconv
  refine hcf.mono ?_
  rintro e w5 ⟨rfl, n5, rfl⟩
  rw [HO.out]
  clear hcf
  go_wp2
  go_ret2
  exact ⟨_, rfl, RdN.zero, bel_drewN HB4.out _⟩

set_option maxRecDepth 100000 in
set_option maxHeartbeats 1000000 in
theorem parse_ok (s : ByteArray) (b : Nat) (w : World) (hb : isBase b = true) (ht : Bases w) (h0 : 0 < s.size) (hl : s.size ≤ 1000) (hb1 : 1 ≤ b) (hb2 : b ≤ 16) (ho : oddIn b (codes s) = false) :
    Calls Tryd.prog 10 #[.string s, .int .i64 b] w (RetNE (fitN (numOf b (codes s))) (fitC (numOf b (codes s))) w) := by
  have T := Lib.hid (ht.below (bel_alloc (bel_refl w) (.cells #[.int .i64 b] 3))); clear ht
  have HB := Lib.hid hb; clear hb
  have e0 : s.toList.isEmpty = false := by rw [empty_bytes]; exact decide_eq_false (by omega)
  have e0' : ¬ s.toList = [] := fun h => by rw [h] at e0; simp at e0
  have hconv := fun W => Lib.run_convert_string_bytes (P := Tryd.prog) W 9 58 5 s Tryd.underlying9 Tryd.underlying58 Tryd.underlying5
  have H0 := Lib.hid h0; clear h0
  have HO := Lib.hid ho; clear ho
  go_enter Tryd.func10, Tryd.ntmps10
  go_wp2
  go_quiet (first | (go_at_call 40; exact Calls.quiet_of_same (contains_is b true HB.out _ (T.out.drewN _))))
  go_wp2_with fail
  obtain ⟨W3, hW3⟩ : ∃ W3, W3 = (w.alloc (.cells #[.int .i64 (b : Int)] 3)).drewN nq := ⟨_, rfl⟩
  rw [← hW3]
  have hb3 : Below w.heap.size w W3 := by rw [hW3]; exact bel_drewN (bel_alloc (bel_refl w) _) nq
  have hz3 : W3.heap.size = w.heap.size + 1 := by rw [hW3]; simp
  have hc3 : W3.cell? ⟨w.heap.size, 0, none⟩ = some (.int .i64 (b : Int)) := by
    rw [hW3]
    exact (Blk.new w 3 #[.int .i64 (b : Int)]).cell 0
  obtain ⟨W4, hW4⟩ : ∃ W4, W4 = Lib.bytesWorld W3 5 s := ⟨_, rfl⟩
  rw [← hW4]
  have hb34 : Below W3.heap.size W3 W4 := by rw [hW4]; exact bel_bytes _ _ _
  have hc4 : W4.cell? ⟨w.heap.size, 0, none⟩ = some (.int .i64 (b : Int)) := (hb34.cell (p := ⟨w.heap.size, 0, none⟩) (by rw [hz3]; exact Nat.lt_succ_self _)).trans hc3
  have hz4 : W4.heap.size = w.heap.size + 2 := by rw [hW4, Lib.bytesWorld_size, hz3]
  have hr4 : Rd W4 (some ⟨w.heap.size + 1, 0, none⟩) (codes s).length (fun k => .int .u8 ((codes s).getD k 0 : Nat)) := fun _ =>
    ⟨w.heap.size + 1, 0, rfl, by rw [hz4]; omega, fun k hk => by
      rw [codes_len] at hk
      have h1 := Lib.bytesWorld_cell W3 5 s k hk
      rw [hz3, ← hW4] at h1
      rw [Nat.zero_add, h1]
      congr 2
      have hk2 : k < s.data.toList.length := by rw [Array.length_toList]; exact hk
      simp only [codes, List.getD_eq_getElem?_getD, List.getElem?_map, List.getElem?_eq_getElem hk2]
      rfl⟩
  have HB4 := Lib.hid (bel_trans hb3 hb34)
  have HZ := Lib.hid hz4
  have HC4 := Lib.hid hc4
  have hcf := containsFunc_any (some ⟨w.heap.size + 1, 0, none⟩) (grownCap W3 s.size 0 5) b w.heap.size (codes s) W4 (by rw [codes_len]; exact hl) (codes_lt s) hr4 hc4
  rw [codes_len] at hcf
  clear hb3 hz3 hc3 hb34 hc4 hz4 hr4 hW4 hW3 T HB hconv
  refine hcf.mono ?_
  rintro e w5 ⟨rfl, n5, rfl⟩
  rw [HO.out]
  clear hcf
  have HP : Hid (PaRel W4 (W4.drewN n5) s b 0 (.slice none 0 0)) := ⟨bel_drewN (bel_refl _) _, RdN.zero, Nat.pow_pos (by decide)⟩
  go_wp2
  go_loopw [7, 26] (fun v i wr => ∃ k : Nat, i = .int .i64 (k : Int) ∧ k ≤ s.size ∧ PaRel W4 wr s b k v) (fun _ i _ => s.size - (intOf i).toNat)
  case atStart => exact ⟨0, rfl, Nat.zero_le _, HP.out⟩
  case round =>
    obtain ⟨k, rfl, hk, hrel⟩ := hrel
    have HA := Lib.hid hrel; clear hrel
    obtain ⟨A7, c7, rfl, hc7, hr7⟩ := HA.out.num.row
    have R7 := Lib.hid hr7; clear hr7 hc7
    have hl7 := limbs_len16 HA.out.small
    by_cases hlt : k < s.size
    · have hlt' : (k : Int) < (s.size : Int) := by omega
      have hk0 : (0 : Int) ≤ (k : Int) := by omega
      have hbt := codes_get s hlt
      obtain ⟨c, hce⟩ : ∃ c, c = (codes s).getD k 0 := ⟨_, rfl⟩
      rw [← hce] at hbt
      have hc256 : Hid (c < 256) := by
        show c < 256
        rw [← hbt]; exact UInt8.toNat_lt _
      have HCE := Lib.hid hce; clear hce
      have hcb : wr.cell? ⟨w.heap.size, 0, none⟩ = some (.int .i64 (b : Int)) := (HA.out.old.cell (p := ⟨w.heap.size, 0, none⟩) (by rw [HZ.out]; show w.heap.size < _; omega)).trans HC4.out
      have hdl := digV_le c
      obtain ⟨d, hde⟩ : ∃ d, d = digV c := ⟨_, rfl⟩
      rw [← hde] at hdl
      have HDE := Lib.hid hde; clear hde
      have sb : IntKind.u64.wrap (b : Int) = (b : Int) := by rw [IntKind.wrap_u64]; omega
      have sd : IntKind.u64.wrap (d : Int) = (d : Int) := by rw [IntKind.wrap_u64]; omega
      obtain ⟨N, hN⟩ : ∃ N, N = numOf b ((codes s).take k) := ⟨_, rfl⟩
      rw [← hN] at R7 hl7 ⊢
      have HNN := Lib.hid hN; clear hN
      have hw8 : w.heap.size < wr.heap.size := by have h1 := HA.out.old.size; have h2 := HZ.out; omega
      obtain ⟨M, hM⟩ : ∃ M, M = b * N + d := ⟨_, rfl⟩
      have hMs : M = numOf b ((codes s).take (k + 1)) := by rw [hM, numOf_succ b (codes s) (by rw [codes_len]; exact hlt), ← HNN.out, HDE.out, HCE.out]
      have HNX := Lib.hid (And.intro hM hMs); clear hM hMs
      by_cases hT : M < Top
      · have hlen := limbs_len16 hT
        have hlen' : ¬ (16 : Int) < ((limbs M).length : Int) := by omega
        have HTT := Lib.hid hT; clear hT
        go_wp2_with fail
        go_region_held3 (fun w' => w'.cell? ⟨w.heap.size, 0, none⟩ = some (.int .i64 (b : Int)))
          (first | exact hcb | assumption)
          (first
            | (go_at_call 39; (with_reducible refine (digit_any c hc256.out _).mono ?_); rintro e w12 ⟨rfl, rfl⟩; rw [← HDE.out])
            | (go_at_call 42; (with_reducible refine (small_any A7 c7 (limbs N) b d _ (R7.out.below (Below.refl _ _).drew) (limbs_lim N) (by omega) (by omega) (by omega)).mono ?_); rintro e w12 ⟨v12, rfl, hn12, hb12⟩; rw [lval_limbs, ← HNX.out.1] at hn12; have HB12 := Lib.hid ((Below.refl wr.heap.size wr).drew.trans hb12); clear hb12; obtain ⟨A8, c8, rfl, hc8, hr8⟩ := hn12.row; have HN12 := Lib.hid hn12; clear hn12 hc8 hr8; have hcb' := (HB12.out.cell (p := ⟨w.heap.size, 0, none⟩) hw8).trans hcb))
        go_wp2
        go_roundw
        case rel => exact ⟨k + 1, by go_num, by omega, HA.out.old.trans (HB12.out.mono HA.out.old.size), by rw [← HNX.out.2]; exact HN12.out, by rw [← HNX.out.2]; exact HTT.out⟩
        case measure => simp [intOf]; omega
      · have hlen' : (16 : Int) < ((limbs M).length : Int) := by
          have : ¬ (limbs M).length ≤ 16 := fun h => hT (limbs_len.1 h)
          omega
        have hbig : Hid (¬ numOf b (codes s) < Top) := by
          show ¬ _
          have h1 := numOf_le b (codes s) (k + 1) hb1
          rw [← HNX.out.2] at h1
          omega
        have HTT := Lib.hid hT; clear hT
        go_wp2_with fail
        go_region_held3 (fun w' => w'.cell? ⟨w.heap.size, 0, none⟩ = some (.int .i64 (b : Int)))
          (first | exact hcb | assumption)
          (first
            | (go_at_call 39; (with_reducible refine (digit_any c hc256.out _).mono ?_); rintro e w12 ⟨rfl, rfl⟩; rw [← HDE.out])
            | (go_at_call 42; (with_reducible refine (small_any A7 c7 (limbs N) b d _ (R7.out.below (Below.refl _ _).drew) (limbs_lim N) (by omega) (by omega) (by omega)).mono ?_); rintro e w12 ⟨v12, rfl, hn12, hb12⟩; rw [lval_limbs, ← HNX.out.1] at hn12; have HB12 := Lib.hid ((Below.refl wr.heap.size wr).drew.trans hb12); clear hb12; obtain ⟨A8, c8, rfl, hc8, hr8⟩ := hn12.row; have HN12 := Lib.hid hn12; clear hn12 hc8 hr8; have hcb' := (HB12.out.cell (p := ⟨w.heap.size, 0, none⟩) hw8).trans hcb))
        go_wp2
        go_ret2
        unfold fitN fitC
        rw [if_neg hbig.out, if_neg hbig.out]
        exact ⟨_, rfl, RdN.zero, bel_trans HB4.out (HA.out.old.trans (HB12.out.mono HA.out.old.size))⟩
    · have hks : k = s.size := by omega
      have hN : numOf b ((codes s).take k) = numOf b (codes s) := by rw [List.take_of_length_le (by rw [codes_len]; omega)]
      have hsm := HA.out.small
      have hnum := HA.out.num
      rw [hN] at hsm hnum
      have HNM := Lib.hid hnum; clear hnum
      have HSM := Lib.hid hsm; clear hsm
      have hold := HA.out.old
      rw [hN]
      have HOL := Lib.hid hold; clear hold
      go_wp2
      go_ret2
      unfold fitN fitC
      rw [if_pos HSM.out, if_pos HSM.out]
      exact ⟨_, rfl, HNM.out, bel_trans HB4.out HOL.out⟩
end Go.Proofs.YtmbbdjpnecjleaaDoor
