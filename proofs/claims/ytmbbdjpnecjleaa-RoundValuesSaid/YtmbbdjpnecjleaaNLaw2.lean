/-
  More contracts for the laws of layer 1: a number's own text is read, nothing is nothing, Div of numbers.
-/
import Derived.Test.YtmbbdjpnecjleaaNLaw
namespace Go.Proofs.Ytmbbdjpnecjleaa
set_option maxRecDepth 100000
open Go.RowKit

theorem codes_bytes (ds : List Nat) (h : ∀ d ∈ ds, d < 256) : codes (bytesOf ds) = ds := by
  unfold codes bytesOf
  show ((ds.map UInt8.ofNat).toArray.toList).map UInt8.toNat = ds
  rw [List.toList_toArray, List.map_map]
  conv => rhs; rw [← List.map_id ds]
  refine List.map_congr_left fun d hd => ?_
  show (UInt8.ofNat d).toNat = d
  rw [UInt8.toNat_ofNat']
  exact Nat.mod_eq_of_lt (h d hd)
theorem codes_dec (n : Nat) : codes (dec n) = chrs (decL n) := by
  unfold dec
  refine codes_bytes _ fun d hd => ?_
  obtain ⟨x, hx, rfl⟩ := List.mem_map.1 hd
  have := decL_lt n x hx
  omega
theorem digV_chr {d : Nat} (h : d < 10) : digV (48 + d) = d := by unfold digV; rw [if_pos ⟨by omega, by omega⟩]; omega
theorem odd_dec (n : Nat) : oddIn 10 (codes (dec n)) = false := by
  rw [codes_dec]
  unfold oddIn
  rw [List.any_eq_false]
  intro c hc
  obtain ⟨x, hx, rfl⟩ := List.mem_map.1 hc
  have hx := decL_lt n x hx
  rw [digV_chr hx]
  simp
  omega
theorem num_rev (b : Nat) (ds : List Nat) (h : ∀ d ∈ ds, d < 10) : (ds.reverse.map (fun d => 48 + d)).foldl (fun n c => n * b + digV c) 0 = val b ds := by
  induction ds with
  | nil => rfl
  | cons d r ih =>
    rw [List.reverse_cons, List.map_append, List.foldl_append, ih (fun x hx => h x (List.mem_cons_of_mem _ hx))]
    show val b r * b + digV (48 + d) = val b (d :: r)
    rw [digV_chr (h d (List.mem_cons_self ..))]
    show _ = d + b * val b r
    rw [Nat.mul_comm]
    omega
theorem num_dec (n : Nat) : numOf 10 (codes (dec n)) = n := by
  rw [codes_dec]
  by_cases h0 : n = 0
  · subst h0; rfl
  · rw [decL_pos h0]
    have := num_rev 10 (digs 10 n) (digs_lt (by decide) n)
    rw [val_digs (by decide)] at this
    exact this
theorem dec_len {n : Nat} (h : n < Top) : (dec n).size ≤ 160 := by rw [dec_size]; exact decL_top h
theorem same_nil (A A' : Option Addr) (cap cap' : Nat) (w : World) : Calls Try.prog 62 #[.slice A 0 cap, .slice A' 0 cap'] w (RetBB true w) :=
  same_bb A A' cap cap' [] [] w RdL.nil RdL.nil (by decide)
theorem same_num (n m : Nat) (hm : n = m) (A A' : Option Addr) (cap cap' : Nat) (w : World) (h : RdL w A (limbs n)) (h' : RdL w A' (limbs m)) (hn : n < Top) :
    Calls Try.prog 62 #[.slice A (limbs n).length cap, .slice A' (limbs m).length cap'] w (RetBB true w) := by
  subst hm
  have := same_bb A A' cap cap' (limbs n) (limbs n) w h h' (len18 hn)
  rwa [decide_eq_true rfl] at this
theorem fitN_top (N : Nat) : fitN N < Top := by
  unfold fitN
  split
  · assumption
  · exact small_top (by decide)
theorem div_num (A A' : Option Addr) (cap cap' : Nat) (a b : Nat) (w : World) (h : RdL w A (limbs a)) (h' : RdL w A' (limbs b)) (ha : a < Top) (hb : b < Top) (hb0 : b ≠ 0) :
    Calls Try.prog 72 #[.slice A (limbs a).length cap, .slice A' (limbs b).length cap'] w (RetD (a / b) (a % b) 0 w) := div_right A A' cap cap' a b w h h' ha hb hb0
theorem div_none (A A' : Option Addr) (cap cap' : Nat) (a : Nat) (w : World) (h : RdL w A (limbs a)) (ha : a < Top) :
    Calls Try.prog 72 #[.slice A (limbs a).length cap, .slice A' 0 cap'] w (RetD 0 0 4 w) := div_zero A A' cap cap' (limbs a) w h (by have := len18 ha; omega) (rightL_limbs ha)
theorem div_bad (A A' : Option Addr) (cap cap' : Nat) (xs ys : List Nat) (w : World) (h : RdL w A xs) (h' : RdL w A' ys) (hl : xs.length ≤ 18) (hl' : ys.length ≤ 18) (hr : (rightL xs && rightL ys) = false) :
    Calls Try.prog 72 #[.slice A xs.length cap, .slice A' ys.length cap'] w (RetD 0 0 1 w) := div_wrong A A' cap cap' xs ys w h h' (by omega) (by omega) hr
theorem text_bad (A : Option Addr) (cap : Nat) (xs : List Nat) (w : World) (h : RdL w A xs) (hl : xs.length ≤ 18) (hr : rightL xs = false) :
    Calls Try.prog 58 #[.slice A xs.length cap] w (RetSE ByteArray.empty 1 w) := text_wrong A cap xs w h (by omega) hr
theorem text_ok (A : Option Addr) (cap : Nat) (n : Nat) (w : World) (h : RdL w A (limbs n)) (hn : n < Top) :
    Calls Try.prog 58 #[.slice A (limbs n).length cap] w (RetSE (dec n) 0 w) := text_right A cap n w h hn
theorem right_swap {xs ys : List Nat} (h : (rightL xs && rightL ys) = false) : (rightL ys && rightL xs) = false := by rw [Bool.and_comm]; exact h
theorem wrong_len {ys : List Nat} (h : rightL ys = false) : ys.length ≠ 0 := fun e => by
  rw [List.eq_nil_of_length_eq_zero e] at h
  cases h
theorem div_add_eq (a b : Nat) : a / b * b + a % b = a := by rw [Nat.mul_comm]; exact Nat.div_add_mod a b
theorem mul_div_top {a b : Nat} (h : a < Top) : a / b * b < Top := Nat.lt_of_le_of_lt (Nat.div_mul_le_self a b) h
theorem lt_top {a b : Nat} (h : a ≤ b) (hb : b < Top) : a < Top := Nat.lt_of_le_of_lt h hb
theorem RetNE.of {n m : Nat} {c d : Int} {w w' : World} {e : Ending} (h : RetNE n c w e w') (h1 : n = m) (h2 : c = d) : RetNE m d w e w' := by subst h1 h2; exact h
theorem add_small (A A' : Option Addr) (cap cap' : Nat) (a b c : Nat) (w : World) (h : RdL w A (limbs a)) (h' : RdL w A' (limbs b)) (ha : a < Top) (hb : b < Top) (hc : a + b = c) (hc' : c < Top) :
    Calls Try.prog 99 #[.slice A (limbs a).length cap, .slice A' (limbs b).length cap'] w (RetNE c 0 w) := by
  subst hc
  exact (add_num A A' cap cap' a b w h h' ha hb).mono fun _ _ h => h.of (fit_small hc').1 (fit_small hc').2
theorem mul_small (A A' : Option Addr) (cap cap' : Nat) (a b c : Nat) (w : World) (h : RdL w A (limbs a)) (h' : RdL w A' (limbs b)) (ha : a < Top) (hb : b < Top) (hc : a * b = c) (hc' : c < Top) :
    Calls Try.prog 66 #[.slice A (limbs a).length cap, .slice A' (limbs b).length cap'] w (RetNE c 0 w) := by
  subst hc
  exact (mul_num A A' cap cap' a b w h h' ha hb).mono fun _ _ h => h.of (fit_small hc').1 (fit_small hc').2
theorem add_turned (A A' : Option Addr) (cap cap' : Nat) (a b : Nat) (w : World) (h : RdL w A (limbs a)) (h' : RdL w A' (limbs b)) (ha : a < Top) (hb : b < Top) :
    Calls Try.prog 99 #[.slice A' (limbs b).length cap', .slice A (limbs a).length cap] w (RetNE (fitN (a + b)) (fitC (a + b)) w) := by
  rw [Nat.add_comm]
  exact add_num A' A cap' cap b a w h' h hb ha
theorem mul_turned (A A' : Option Addr) (cap cap' : Nat) (a b : Nat) (w : World) (h : RdL w A (limbs a)) (h' : RdL w A' (limbs b)) (ha : a < Top) (hb : b < Top) :
    Calls Try.prog 66 #[.slice A' (limbs b).length cap', .slice A (limbs a).length cap] w (RetNE (fitN (a * b)) (fitC (a * b)) w) := by
  rw [Nat.mul_comm]
  exact mul_num A' A cap' cap b a w h' h hb ha
theorem cmp_lt (A A' : Option Addr) (cap cap' : Nat) (a b : Nat) (w : World) (h : RdL w A (limbs a)) (h' : RdL w A' (limbs b)) (ha : a < Top) (hb : b < Top) (hab : a < b) :
    Calls Try.prog 71 #[.slice A (limbs a).length cap, .slice A' (limbs b).length cap'] w (RetIEB (-1) 0 w) := by
  have := cmp_num A A' cap cap' a b w h h' ha hb
  rwa [cmpI_lt (by omega)] at this
end Go.Proofs.Ytmbbdjpnecjleaa
