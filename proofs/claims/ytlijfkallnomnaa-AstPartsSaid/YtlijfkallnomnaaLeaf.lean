/-
  The small functions of layer 7 and its reference: slices.Equal, slices.Index, slices.Contains, in, Kids.
-/
import Derived.Test.YtlijfkallnomnaaRows
import Derived.Test.YtlijfkallnomnaaLib
namespace Go.Proofs.Ytlijfkallnomnaa
open Go.RowKit

def RetBD (b : Bool) (w : World) (e : Ending) (w' : World) : Prop := e = .returned (.bool b) ∧ ∃ n, w' = w.drewN n
def RetB (b : Bool) (w : World) (e : Ending) (w' : World) : Prop := e = .returned (.bool b) ∧ w = w'
def RetI (i : Int) (w : World) (e : Ending) (w' : World) : Prop := e = .returned (.int .i64 i) ∧ w = w'

theorem eq_of_take {xs ys : List Int} {k : Nat} (h : xs.take k = ys.take k) (hx : xs.length = ys.length) (hk : ¬ k < xs.length) : (xs == ys) = true := by
  rw [List.take_of_length_le (by omega), List.take_of_length_le (by omega)] at h
  simp [h]
theorem take_succ_eq {xs ys : List Int} {k : Nat} (h : xs.take k = ys.take k) (hk : k < xs.length) (hk' : k < ys.length) (he : xs[k] = ys[k]) : xs.take (k + 1) = ys.take (k + 1) := by
  rw [List.take_succ_eq_append_getElem hk, List.take_succ_eq_append_getElem hk', h, he]

set_option maxHeartbeats 400000 in
theorem equal_any (A A' : Option Addr) (cap cap' : Nat) (xs ys : List Int) (w : World) (hl : xs.length ≤ 4611686018427387904)
    (h : RdI w A .i64 xs) (h' : RdI w A' .i64 ys) :
    Calls Try.prog 22 #[.slice A xs.length cap, .slice A' ys.length cap'] w (RetBD (xs == ys) w) := by
  by_cases hlen : xs.length = ys.length
  · have HL := Lib.hid hlen; clear hlen
    have H := Lib.hid h; clear h
    have H' := Lib.hid h'; clear h'
    have h1 : ((xs.length : Int) != (ys.length : Int)) = false := by rw [HL.out]; simp
    go_enter Try.func22, Try.ntmps22
    go_wp2
    go_loopw [5,13] (fun _ i wr => ∃ k : Nat, k ≤ xs.length ∧ i = .int .i64 k ∧ (xs.take k = ys.take k) ∧ ∃ n, wr = w.drewN n) (fun _ i _ => xs.length - (intOf i).toNat)
    case atStart => exact ⟨0, Nat.zero_le _, rfl, rfl, 0, rfl⟩
    case round =>
      obtain ⟨k, hk, rfl, hx, n, rfl⟩ := hrel
      have Hx := Lib.hid hx; clear hx
      by_cases hlt : k < xs.length
      · obtain ⟨b, off, rfl, _, hcell⟩ := H.out (by omega)
        obtain ⟨b', off', rfl, _, hcell'⟩ := H'.out (by rw [← HL.out]; omega)
        have hlt' : k < ys.length := by rw [← HL.out]; exact hlt
        have hc := hcell k hlt
        have hc' := hcell' k hlt'
        clear hcell hcell'
        go_wp2
        go_quiet (fail)
        go_wp2
        · have hne : (xs[k] != ys[k]) = true := by assumption
          go_ret
          refine ⟨?_, _, World.drewN_drewN _ _ _⟩
          have : ¬ (xs == ys) = true := fun he => by
            have := beq_iff_eq.1 he
            subst this
            simp at hne
          exact ret_bool (by simpa using this)
        · have he : (xs[k] != ys[k]) = false := by assumption
          go_roundw
          case rel => exact ⟨k + 1, by omega, by go_num, take_succ_eq Hx.out hlt hlt' (by simpa using he), _, rfl⟩
          case measure => simp [intOf]; omega
      · go_wp2
        go_ret
        exact ⟨ret_bool (eq_of_take Hx.out HL.out hlt).symm, n, rfl⟩
  · have h1 : ((xs.length : Int) != (ys.length : Int)) = true := by simp; omega
    have H1 : Hid ((xs == ys) = false) := by
      show (xs == ys) = false
      rw [beq_eq_false_iff_ne]; intro e; exact hlen (by rw [e])
    clear h h' hlen
    go_enter Try.func22, Try.ntmps22
    go_wp2
    go_ret
    exact ⟨ret_bool H1.out.symm, 0, rfl⟩

/-- The first place of a bool; -1: none. -/
def idxB (v : Bool) (xs : List Bool) (k : Nat) : Int := match xs with
  | [] => -1
  | x :: r => if (v == x) = true then k else idxB v r (k + 1)
theorem idxB_drop (v : Bool) (xs : List Bool) (k : Nat) (h : k < xs.length) : idxB v (xs.drop k) k = if (v == xs[k]) = true then (k : Int) else idxB v (xs.drop (k + 1)) (k + 1) := by
  rw [List.drop_eq_getElem_cons h]; rfl
theorem idxB_neg (v : Bool) (xs : List Bool) : ∀ k, (decide (0 ≤ idxB v xs k)) = xs.contains v := by
  induction xs with
  | nil => intro k; rfl
  | cons x r ih =>
    intro k
    by_cases h : (v == x) = true
    · have e : idxB v (x :: r) k = k := if_pos h
      simp only [e, List.contains_cons, h]
      simp
    · have e : idxB v (x :: r) k = idxB v r (k + 1) := if_neg h
      have h' : (v == x) = false := by simpa using h
      simp only [e, List.contains_cons, h', Bool.false_or]
      exact ih (k + 1)

set_option maxHeartbeats 400000 in
theorem index_any (A : Option Addr) (cap : Nat) (v : Bool) (xs : List Bool) (w : World) (hl : xs.length ≤ 4611686018427387904) (h : RdB w A xs) :
    Calls Try.prog 27 #[.slice A xs.length cap, .bool v] w (RetI (idxB v xs 0) w) := by
  have H := Lib.hid h; clear h
  go_enter Try.func27, Try.ntmps27
  go_wp2
  go_loop [5,8] (fun _ i => ∃ k : Nat, k ≤ xs.length ∧ i = .int .i64 k ∧ idxB v xs 0 = idxB v (xs.drop k) k) (fun _ i => xs.length - (intOf i).toNat)
  case atStart => exact ⟨0, Nat.zero_le _, rfl, rfl⟩
  case round =>
    obtain ⟨k, hk, rfl, hx⟩ := hrel
    have Hx := Lib.hid hx; clear hx
    by_cases hlt : k < xs.length
    · obtain ⟨b, off, rfl, _, hcell⟩ := H.out (by omega)
      have hc := hcell k hlt
      clear hcell
      go_wp2
      · have he : (v == xs[k]) = true := by assumption
        go_ret
        exact ⟨ret_int (by rw [Hx.out, idxB_drop v xs k hlt, if_pos he]), rfl⟩
      · have he : (v == xs[k]) = false := by assumption
        go_round
        case rel => exact ⟨k + 1, by omega, by go_num, by rw [Hx.out, idxB_drop v xs k hlt, if_neg (by simp [he])]⟩
        case measure => simp [intOf]; omega
    · go_wp2
      go_ret
      exact ⟨ret_int (by rw [Hx.out, List.drop_of_length_le (by omega)]; rfl), rfl⟩

def hasB (v : Bool) (xs : List Bool) : Bool := xs.contains v

set_option maxHeartbeats 400000 in
theorem contains_any (A : Option Addr) (cap : Nat) (v : Bool) (xs : List Bool) (w : World) (hl : xs.length ≤ 4611686018427387904) (h : RdB w A xs) :
    Calls Try.prog 18 #[.slice A xs.length cap, .bool v] w (RetB (hasB v xs) w) := by
  have H := Lib.hid h; clear h
  have HX := Lib.hid (idxB_neg v xs 0)
  go_enter Try.func18, Try.ntmps18
  go_wp2_with (go_at_call 27; refine (index_any A cap v xs _ hl H.out).mono ?_; rintro e w' ⟨rfl, rfl⟩)
  go_ret
  exact ⟨ret_bool HX.out, rfl⟩

def hasI (n : Int) (xs : List Int) : Bool := xs.contains n
theorem hasI_hit {n : Int} {xs : List Int} {k : Nat} (h : k < xs.length) (he : (xs[k] == n) = true) : hasI n (xs.drop k) = true := by
  unfold hasI
  rw [List.drop_eq_getElem_cons h, List.contains_cons, show (n == xs[k]) = true from by rw [beq_iff_eq] at he ⊢; exact he.symm]
  rfl
theorem hasI_miss {n : Int} {xs : List Int} {k : Nat} (h : k < xs.length) (he : (xs[k] == n) = false) : hasI n (xs.drop k) = hasI n (xs.drop (k + 1)) := by
  unfold hasI
  rw [List.drop_eq_getElem_cons h, List.contains_cons, show (n == xs[k]) = false from by rw [beq_eq_false_iff_ne] at he ⊢; exact fun e => he e.symm]
  rfl
theorem hasI_end {n : Int} {xs : List Int} {k : Nat} (h : ¬ k < xs.length) : hasI n (xs.drop k) = false := by
  rw [List.drop_of_length_le (by omega)]; rfl

set_option maxHeartbeats 400000 in
theorem in_any (A : Option Addr) (cap : Nat) (n : Int) (xs : List Int) (w : World) (hl : xs.length ≤ 4611686018427387904) (h : RdI w A .i64 xs) :
    Calls Try.prog 26 #[.int .i64 n, .slice A xs.length cap] w (RetB (hasI n xs) w) := by
  have H := Lib.hid h; clear h
  go_enter Try.func26, Try.ntmps26
  go_wp2
  go_loop [9] (fun i => ∃ k : Nat, k ≤ xs.length ∧ i = .int .i64 k ∧ hasI n xs = hasI n (xs.drop k)) (fun i => xs.length - (intOf i).toNat)
  case atStart => exact ⟨0, Nat.zero_le _, rfl, rfl⟩
  case round =>
    obtain ⟨k, hk, rfl, hx⟩ := hrel
    have Hx := Lib.hid hx; clear hx
    by_cases hlt : k < xs.length
    · obtain ⟨b, off, rfl, _, hcell⟩ := H.out (by omega)
      have hc := hcell k hlt
      clear hcell
      go_wp2
      · have he : (xs[k] == n) = true := by assumption
        go_ret
        exact ⟨ret_bool (by rw [Hx.out, hasI_hit hlt he]), rfl⟩
      · have he : (xs[k] == n) = false := by assumption
        go_round
        case rel => exact ⟨k + 1, by omega, by go_num, by rw [Hx.out, hasI_miss hlt he]⟩
        case measure => simp [intOf]; omega
    · go_wp2
      go_ret
      exact ⟨ret_bool (by rw [Hx.out, hasI_end hlt]), rfl⟩
theorem in_anyN (A : Option Addr) (len cap : Nat) (n : Int) (xs : List Int) (w : World) (hn : len = xs.length) (hl : xs.length ≤ 4611686018427387904) (h : RdI w A .i64 xs) :
    Calls Try.prog 26 #[.int .i64 n, .slice A len cap] w (RetB (hasI n xs) w) := by subst hn; exact in_any A cap n xs w hl h
theorem contains_anyN (A : Option Addr) (len cap : Nat) (v : Bool) (xs : List Bool) (w : World) (hn : len = xs.length) (hl : xs.length ≤ 4611686018427387904) (h : RdB w A xs) :
    Calls Try.prog 18 #[.slice A len cap, .bool v] w (RetB (hasB v xs) w) := by subst hn; exact contains_any A cap v xs w hl h
theorem equal_anyN (A A' : Option Addr) (len len' cap cap' : Nat) (xs ys : List Int) (w : World) (hn : len = xs.length) (hn' : len' = ys.length) (hl : xs.length ≤ 4611686018427387904)
    (h : RdI w A .i64 xs) (h' : RdI w A' .i64 ys) :
    Calls Try.prog 22 #[.slice A len cap, .slice A' len' cap'] w (RetBD (xs == ys) w) := by subst hn; subst hn'; exact equal_any A A' cap cap' xs ys w hl h h'
end Go.Proofs.Ytlijfkallnomnaa
