/-
  Comparisons: both, cmp.Compare, compare, Cmp.
-/
import Derived.Test.YtmbbdjpnecjleaaNLeaf
import Derived.Deep.QuietTactic
import Derived.BigQuiet
namespace Go.Proofs.Ytmbbdjpnecjleaa
set_option maxRecDepth 100000
open Go.RowKit

set_option maxHeartbeats 400000 in
theorem both_any (A A' : Option Addr) (cap cap' : Nat) (xs ys : List Nat) (w : World) (h : RdL w A xs) (h' : RdL w A' ys) (hl : xs.length ≤ 4611686018427387900) (hl' : ys.length ≤ 4611686018427387900) :
    Calls Try.prog 92 #[.slice A xs.length cap, .slice A' ys.length cap'] w (RetBD (rightL xs && rightL ys) w) := by
  have H := Lib.hid h; clear h
  have H' := Lib.hid h'; clear h'
  cases hx : rightL xs
  · go_enter Try.func92, Try.ntmps92
    go_wp2_with fail
    refine (right_any A cap xs _ H.out hl).mono ?_
    rintro e w1 ⟨rfl, n, rfl⟩
    rw [hx]
    go_wp2
    go_ret
    exact ⟨rfl, n, rfl⟩
  · go_enter Try.func92, Try.ntmps92
    go_wp2_with fail
    refine (right_any A cap xs _ H.out hl).mono ?_
    rintro e w1 ⟨rfl, n, rfl⟩
    rw [hx]
    go_wp2_with fail
    refine (right_any A' cap' ys _ (H'.out.drewN n) hl').mono ?_
    rintro e w1 ⟨rfl, m, rfl⟩
    go_wp2
    go_ret
    exact ⟨rfl, _, rfl⟩

/-- -1, 0 or 1. -/
def cmpI (a b : Int) : Int := if a < b then -1 else if b < a then 1 else 0

set_option maxHeartbeats 400000 in
theorem cmpInt_any (a b : Int) (w : World) : Calls Try.prog 101 #[.int .i64 a, .int .i64 b] w (RetI (cmpI a b) w) := by
  unfold cmpI
  by_cases h1 : a < b
  · have h2 : ¬ b < a := by omega
    rw [if_pos h1]
    go_enter Try.func101, Try.ntmps101
    go_wp2
    go_ret
    exact ⟨rfl, rfl⟩
  · rw [if_neg h1]
    by_cases h2 : b < a
    · rw [if_pos h2]
      go_enter Try.func101, Try.ntmps101
      go_wp2
      go_ret
      exact ⟨rfl, rfl⟩
    · rw [if_neg h2]
      go_enter Try.func101, Try.ntmps101
      go_wp2
      go_ret
      exact ⟨rfl, rfl⟩
set_option maxHeartbeats 400000 in
theorem cmpLimb_any (a b : Int) (w : World) : Calls Try.prog 102 #[.int .u32 a, .int .u32 b] w (RetI (cmpI a b) w) := by
  unfold cmpI
  by_cases h1 : a < b
  · have h2 : ¬ b < a := by omega
    rw [if_pos h1]
    go_enter Try.func102, Try.ntmps102
    go_wp2
    go_ret
    exact ⟨rfl, rfl⟩
  · rw [if_neg h1]
    by_cases h2 : b < a
    · rw [if_pos h2]
      go_enter Try.func102, Try.ntmps102
      go_wp2
      go_ret
      exact ⟨rfl, rfl⟩
    · rw [if_neg h2]
      go_enter Try.func102, Try.ntmps102
      go_wp2
      go_ret
      exact ⟨rfl, rfl⟩

theorem cmpI_lt {a b : Int} (h : a < b) : cmpI a b = -1 := if_pos h
theorem cmpI_gt {a b : Int} (h : b < a) : cmpI a b = 1 := by unfold cmpI; rw [if_neg (by omega), if_pos h]
theorem cmpI_eq {a b : Int} (h : a = b) : cmpI a b = 0 := by unfold cmpI; rw [if_neg (by omega), if_neg (by omega)]

theorem cmpI_add (p q r : Nat) : cmpI ((p + r : Nat) : Int) ((q + r : Nat) : Int) = cmpI (p : Int) (q : Int) := by
  rcases Nat.lt_trichotomy p q with h | h | h
  · rw [cmpI_lt (by omega), cmpI_lt (by omega)]
  · rw [cmpI_eq (by omega), cmpI_eq (by omega)]
  · rw [cmpI_gt (by omega), cmpI_gt (by omega)]
theorem lval_take_succ {xs : List Nat} {k : Nat} (h : k < xs.length) : lval (xs.take (k + 1)) = lval (xs.take k) + B32 ^ k * xs.getD k 0 := by
  rw [List.take_succ_eq_append_getElem h]
  unfold lval
  rw [val_snoc, List.length_take, Nat.min_eq_left (by omega), List.getD_eq_getElem?_getD, List.getElem?_eq_getElem h]
  rfl
theorem lval_take_lt {xs : List Nat} (hx : Lim xs) {k : Nat} (h : k ≤ xs.length) : lval (xs.take k) < B32 ^ k := by
  have := val_lt (b := B32) (xs.take k) fun x h => hx x (List.mem_of_mem_take h)
  rwa [List.length_take, Nat.min_eq_left h] at this
theorem lval_take_less {xs ys : List Nat} (hx : Lim xs) {k : Nat} (h : k < xs.length) (h' : k < ys.length) (hlt : xs.getD k 0 < ys.getD k 0) : lval (xs.take (k + 1)) < lval (ys.take (k + 1)) := by
  rw [lval_take_succ h, lval_take_succ h']
  have h1 := lval_take_lt hx (Nat.le_of_lt h)
  have h2 : B32 ^ k * (xs.getD k 0 + 1) ≤ B32 ^ k * ys.getD k 0 := Nat.mul_le_mul_left _ hlt
  rw [Nat.mul_add, Nat.mul_one] at h2
  omega
theorem limbs_less {a b : Nat} (h : (limbs a).length < (limbs b).length) : a < b := by
  have h1 : a < B32 ^ (limbs a).length := limbs_len.1 (Nat.le_refl _)
  have h2 : ¬ b < B32 ^ (limbs a).length := fun h' => by have := limbs_len.2 h'; omega
  omega

set_option maxRecDepth 100000 in
set_option maxHeartbeats 1000000 in
theorem compare_any (A A' : Option Addr) (cap cap' : Nat) (a b : Nat) (w : World) (h : RdL w A (limbs a)) (h' : RdL w A' (limbs b)) (hl : (limbs a).length ≤ 4611686018427387900) :
    Calls Try.prog 94 #[.slice A (limbs a).length cap, .slice A' (limbs b).length cap'] w (RetID (cmpI a b) w) := by
  have H := Lib.hid h; clear h
  have H' := Lib.hid h'; clear h'
  by_cases hlt : (limbs a).length < (limbs b).length
  · have e : cmpI ((limbs a).length : Int) ((limbs b).length : Int) = -1 := cmpI_lt (by omega)
    have e2 : cmpI (a : Int) (b : Int) = -1 := cmpI_lt (by have := limbs_less hlt; omega)
    rw [e2]
    go_enter Try.func94, Try.ntmps94
    go_wp2_with fail
    refine (cmpInt_any _ _ _).mono ?_
    rintro e w1 ⟨rfl, rfl⟩
    rw [e]
    go_wp2
    go_ret
    exact ⟨rfl, 0, rfl⟩
  by_cases hgt : (limbs b).length < (limbs a).length
  · have e : cmpI ((limbs a).length : Int) ((limbs b).length : Int) = 1 := cmpI_gt (by omega)
    have e2 : cmpI (a : Int) (b : Int) = 1 := cmpI_gt (by have := limbs_less hgt; omega)
    rw [e2]
    go_enter Try.func94, Try.ntmps94
    go_wp2_with fail
    refine (cmpInt_any _ _ _).mono ?_
    rintro e w1 ⟨rfl, rfl⟩
    rw [e]
    go_wp2
    go_ret
    exact ⟨rfl, 0, rfl⟩
  have heq : (limbs a).length = (limbs b).length := by omega
  have e : cmpI ((limbs a).length : Int) ((limbs b).length : Int) = 0 := cmpI_eq (by omega)
  have HE := Lib.hid heq; clear heq hlt hgt
  go_enter Try.func94, Try.ntmps94
  go_wp2_with fail
  refine (cmpInt_any _ _ _).mono ?_
  rintro e w1 ⟨rfl, rfl⟩
  rw [e]
  clear e
  go_wp2
  go_loopw [6] (fun i wr => ∃ k : Nat, k ≤ (limbs a).length ∧ i = .int .i64 ((k : Int) - 1) ∧ cmpI a b = cmpI (lval ((limbs a).take k)) (lval ((limbs b).take k)) ∧ ∃ n, wr = w1.drewN n) (fun i _ => (intOf i + 1).toNat)
  case atStart => exact ⟨(limbs a).length, Nat.le_refl _, by go_num, by rw [List.take_length, HE.out, List.take_length, lval_limbs, lval_limbs], 0, rfl⟩
  case round =>
    obtain ⟨k, hk, rfl, hrel, hw⟩ := hrel
    have HR := Lib.hid hrel; clear hrel
    have R := Lib.hid (show RdL wr A (limbs a) by obtain ⟨n, rfl⟩ := hw; exact H.out.drewN n)
    have R' := Lib.hid (show RdL wr A' (limbs b) by obtain ⟨n, rfl⟩ := hw; exact H'.out.drewN n)
    have HW := Lib.hid hw; clear hw
    by_cases h0 : k = 0
    · subst h0
      go_wp2
      go_ret
      exact ⟨ret_int HR.out.symm, HW.out⟩
    · obtain ⟨j, rfl⟩ : ∃ j, k = j + 1 := ⟨k - 1, by omega⟩
      have hj : j < (limbs a).length := by omega
      have hj' : j < (limbs b).length := by rw [← HE.out]; exact hj
      obtain ⟨g, off, rfl, hb, hc⟩ := R.out.at_ hj
      obtain ⟨g', off', rfl, hb', hc'⟩ := R'.out.at_ hj'
      obtain ⟨x, hx⟩ : ∃ x, x = (limbs a).getD j 0 := ⟨_, rfl⟩
      obtain ⟨y, hy⟩ : ∃ y, y = (limbs b).getD j 0 := ⟨_, rfl⟩
      rw [← hx] at hc
      rw [← hy] at hc'
      have HX := Lib.hid hx; clear hx
      have HY := Lib.hid hy; clear hy
      have hi : ((j + 1 : Nat) : Int) - 1 = (j : Int) := by omega
      rw [hi]
      have hj2 : (j : Int) < ((limbs a).length : Int) := by omega
      have hj3 : (j : Int) < ((limbs b).length : Int) := by omega
      go_wp2
      go_quiet (first | (go_at_call 102; exact Calls.quiet_of_same (cmpLimb_any _ _ _)))
      go_wp2
      · have hne : ((cmpI (x : Int) (y : Int)) != 0) = true := by assumption
        go_ret
        refine ⟨ret_int ?_, ?_⟩
        · rw [HR.out]
          by_cases h1 : x < y
          · rw [cmpI_lt (by omega), cmpI_lt (by have := lval_take_less (limbs_lim a) hj hj' (by rw [← HX.out, ← HY.out]; exact h1); omega)]
          · by_cases h2 : y < x
            · rw [cmpI_gt (by omega), cmpI_gt (by have := lval_take_less (limbs_lim b) hj' hj (by rw [← HX.out, ← HY.out]; exact h2); omega)]
            · rw [cmpI_eq (by omega)] at hne
              simp at hne
        · obtain ⟨n, rfl⟩ := HW.out
          exact ⟨_, World.drewN_drewN _ _ _⟩
      · have he : ((cmpI (x : Int) (y : Int)) != 0) = false := by assumption
        have hxy : x = y := by
          rcases Nat.lt_trichotomy x y with h | h | h
          · rw [cmpI_lt (by omega)] at he; simp at he
          · exact h
          · rw [cmpI_gt (by omega)] at he; simp at he
        go_roundw
        case rel =>
          refine ⟨j, by omega, by go_num, ?_, ?_⟩
          · rw [HR.out, lval_take_succ hj, lval_take_succ hj', ← HX.out, ← HY.out, hxy]
            exact cmpI_add _ _ _
          · obtain ⟨n, rfl⟩ := HW.out
            exact ⟨_, World.drewN_drewN _ _ _⟩
        case measure => simp [intOf]

def RetIE (i c : Int) (w : World) (e : Ending) (w' : World) : Prop := e = .returned (.tuple #[.int .i64 i, .int .i64 c]) ∧ ∃ n, w' = w.drewN n

set_option maxHeartbeats 400000 in
theorem cmp_any (A A' : Option Addr) (cap cap' : Nat) (xs ys : List Nat) (w : World) (h : RdL w A xs) (h' : RdL w A' ys) (hx : Lim xs) (hy : Lim ys) (hl : xs.length ≤ 4611686018427387900) (hl' : ys.length ≤ 4611686018427387900) :
    Calls Try.prog 71 #[.slice A xs.length cap, .slice A' ys.length cap'] w (if (rightL xs && rightL ys) = true then RetIE (cmpI (lval xs) (lval ys)) 0 w else RetIE 0 1 w) := by
  have H := Lib.hid h; clear h
  have H' := Lib.hid h'; clear h'
  cases hr : (rightL xs && rightL ys)
  · rw [if_neg (by simp)]
    go_enter Try.func71, Try.ntmps71
    go_wp2_with fail
    refine (both_any A A' cap cap' xs ys _ H.out H'.out hl hl').mono ?_
    rintro e w1 ⟨rfl, n, rfl⟩
    rw [hr]
    go_wp2
    go_ret2
    exact ⟨rfl, n, rfl⟩
  · rw [if_pos rfl]
    rw [Bool.and_eq_true] at hr
    have ea := ((rightL_iff hx).1 hr.1).1
    have eb := ((rightL_iff hy).1 hr.2).1
    go_enter Try.func71, Try.ntmps71
    go_wp2_with fail
    refine (both_any A A' cap cap' xs ys _ H.out H'.out hl hl').mono ?_
    rintro e w1 ⟨rfl, n, rfl⟩
    rw [hr.1, hr.2]
    go_wp2_with fail
    have hc := compare_any A A' cap cap' (lval xs) (lval ys) (w.drewN n) (by rw [ea]; exact H.out.drewN n) (by rw [eb]; exact H'.out.drewN n) (by rw [ea]; exact hl)
    rw [ea, eb] at hc
    refine hc.mono ?_
    rintro e w1 ⟨rfl, m, rfl⟩
    go_wp2
    go_ret2
    exact ⟨rfl, _, rfl⟩
end Go.Proofs.Ytmbbdjpnecjleaa
