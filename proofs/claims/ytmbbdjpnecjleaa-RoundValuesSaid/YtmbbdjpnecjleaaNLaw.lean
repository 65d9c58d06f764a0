/-
  few, is, alive of the laws of layer 1.
-/
import Derived.Test.YtmbbdjpnecjleaaRText
namespace Go.Proofs.Ytmbbdjpnecjleaa
set_option maxRecDepth 100000
open Go.RowKit

/-- The first 18. -/
def few (xs : List Nat) : List Nat := xs.take 18
def RetFew (A : Option Addr) (cap : Nat) (xs : List Nat) (w : World) (e : Ending) (w' : World) : Prop := e = .returned (.slice A (few xs).length cap) ∧ w' = w

theorem few_len (xs : List Nat) : (few xs).length = min xs.length 18 := by unfold few; rw [List.length_take]; omega
theorem few_le (xs : List Nat) : (few xs).length ≤ 18 := by rw [few_len]; omega
theorem few_lim {xs : List Nat} (h : Lim xs) : Lim (few xs) := fun x hx => h x (List.mem_of_mem_take hx)

def aliveText : ByteArray := ⟨#[49, 48, 48, 48, 48, 48, 48, 48, 48, 48, 48]⟩
theorem alive_num : numOf 16 (codes aliveText) = 1099511627776 := by decide +kernel
theorem alive_odd : oddIn 16 (codes aliveText) = false := by decide +kernel
theorem alive_q : dec 109951162777 = ⟨#[49, 48, 57, 57, 53, 49, 49, 54, 50, 55, 55, 55]⟩ := by decide +kernel
theorem limbs_6 : limbs 6 = [6] := by decide +kernel
theorem small_top {n : Nat} (h : n < 18446744073709551616) : n < Top := Nat.lt_of_lt_of_le h (by
  show B32 ^ 2 ≤ B32 ^ 16
  exact Nat.pow_le_pow_right (by decide) (by decide))
theorem fit_small {n : Nat} (h : n < Top) : fitN n = n ∧ fitC n = 0 := by unfold fitN fitC; rw [if_pos h, if_pos h]; exact ⟨rfl, rfl⟩

def RetT (w : World) (e : Ending) (w' : World) : Prop := e = .returned (.bool true) ∧ Below w.heap.size w w'
def RetIEB (i c : Int) (w : World) (e : Ending) (w' : World) : Prop := e = .returned (.tuple #[.int .i64 i, .int .i64 c]) ∧ Below w.heap.size w w'
def RetIB (i : Int) (w : World) (e : Ending) (w' : World) : Prop := e = .returned (.int .i64 i) ∧ Below w.heap.size w w'
theorem RetBD.bb {b : Bool} {w w' : World} {e : Ending} (h : RetBD b w e w') : RetBB b w e w' := by
  obtain ⟨rfl, n, rfl⟩ := h
  exact ⟨rfl, bel_drewN (bel_refl _) _⟩
theorem right_bb (A : Option Addr) (cap : Nat) (xs : List Nat) (w : World) (h : RdL w A xs) (hl : xs.length ≤ 18) : Calls Try.prog 56 #[.slice A xs.length cap] w (RetBB (rightL xs) w) :=
  (right_any A cap xs w h (by omega)).mono fun _ _ => RetBD.bb
theorem refRight_bb (A : Option Addr) (cap : Nat) (xs : List Nat) (w : World) (h : RdL w A xs) (hl : xs.length ≤ 18) : Calls Try.prog 29 #[.slice A xs.length cap] w (RetBB (rightL xs) w) :=
  (refRight_any A cap xs w h (by omega)).mono fun _ _ => RetBD.bb
theorem same_bb (A A' : Option Addr) (cap cap' : Nat) (xs ys : List Nat) (w : World) (h : RdL w A xs) (h' : RdL w A' ys) (hl : xs.length ≤ 18) : Calls Try.prog 62 #[.slice A xs.length cap, .slice A' ys.length cap'] w (RetBB (decide (xs = ys)) w) :=
  (same_any A A' cap cap' xs ys w h h' (by omega)).mono fun _ _ => RetBD.bb
theorem refCmp_bb (a b : Nat) (w : World) : Calls Try.prog 46 #[.string (dec a), .string (dec b)] w (RetIB (cmpI a b) w) :=
  (refCmp_any a b w).mono fun _ _ h => by
    obtain ⟨rfl, n, rfl⟩ := h
    exact ⟨rfl, bel_drewN (bel_refl _) _⟩
theorem cmp_wrong (A A' : Option Addr) (cap cap' : Nat) (xs ys : List Nat) (w : World) (h : RdL w A xs) (h' : RdL w A' ys) (hx : Lim xs) (hy : Lim ys) (hl : xs.length ≤ 18) (hl' : ys.length ≤ 18) (hr : (rightL xs && rightL ys) = false) :
    Calls Try.prog 71 #[.slice A xs.length cap, .slice A' ys.length cap'] w (RetIEB 0 1 w) := by
  have hc := cmp_any A A' cap cap' xs ys w h h' hx hy (by omega) (by omega)
  rw [if_neg (by rw [hr]; simp)] at hc
  exact hc.mono fun _ _ h => by
    obtain ⟨rfl, n, rfl⟩ := h
    exact ⟨rfl, bel_drewN (bel_refl _) _⟩
theorem len18 {n : Nat} (h : n < Top) : (limbs n).length ≤ 18 := by have := limbs_len16 h; omega
theorem cmp_num (A A' : Option Addr) (cap cap' : Nat) (a b : Nat) (w : World) (h : RdL w A (limbs a)) (h' : RdL w A' (limbs b)) (ha : a < Top) (hb : b < Top) :
    Calls Try.prog 71 #[.slice A (limbs a).length cap, .slice A' (limbs b).length cap'] w (RetIEB (cmpI a b) 0 w) := by
  have hc := cmp_any A A' cap cap' (limbs a) (limbs b) w h h' (limbs_lim a) (limbs_lim b) (by have := len18 ha; omega) (by have := len18 hb; omega)
  rw [if_pos (by rw [rightL_limbs ha, rightL_limbs hb]; rfl), lval_limbs, lval_limbs] at hc
  exact hc.mono fun _ _ h => by
    obtain ⟨rfl, n, rfl⟩ := h
    exact ⟨rfl, bel_drewN (bel_refl _) _⟩
theorem add_num (A A' : Option Addr) (cap cap' : Nat) (a b : Nat) (w : World) (h : RdL w A (limbs a)) (h' : RdL w A' (limbs b)) (ha : a < Top) (hb : b < Top) :
    Calls Try.prog 99 #[.slice A (limbs a).length cap, .slice A' (limbs b).length cap'] w (RetNE (fitN (a + b)) (fitC (a + b)) w) := by
  have hc := add_right A A' cap cap' (limbs a) (limbs b) w h h' (limbs_lim a) (limbs_lim b) (rightL_limbs ha) (rightL_limbs hb) (limbs_len16 ha) (limbs_len16 hb)
  rwa [lval_limbs, lval_limbs] at hc
theorem sub_num (A A' : Option Addr) (cap cap' : Nat) (a b : Nat) (w : World) (h : RdL w A (limbs a)) (h' : RdL w A' (limbs b)) (ha : a < Top) (hb : b < Top) :
    Calls Try.prog 100 #[.slice A (limbs a).length cap, .slice A' (limbs b).length cap'] w (RetNE (a - b) (subC a b) w) := by
  have hc := sub_right A A' cap cap' (limbs a) (limbs b) w h h' (limbs_lim a) (limbs_lim b) (rightL_limbs ha) (rightL_limbs hb) (limbs_len16 ha) (limbs_len16 hb)
  rwa [lval_limbs, lval_limbs] at hc
theorem mul_num (A A' : Option Addr) (cap cap' : Nat) (a b : Nat) (w : World) (h : RdL w A (limbs a)) (h' : RdL w A' (limbs b)) (ha : a < Top) (hb : b < Top) :
    Calls Try.prog 66 #[.slice A (limbs a).length cap, .slice A' (limbs b).length cap'] w (RetNE (fitN (a * b)) (fitC (a * b)) w) := by
  have hc := mul_right A A' cap cap' (limbs a) (limbs b) w h h' (limbs_lim a) (limbs_lim b) (rightL_limbs ha) (rightL_limbs hb) (limbs_len16 ha) (limbs_len16 hb)
  rwa [lval_limbs, lval_limbs] at hc
theorem bits_num (A : Option Addr) (cap : Nat) (a : Nat) (w : World) (h : RdL w A (limbs a)) (ha : a < Top) :
    Calls Try.prog 79 #[.slice A (limbs a).length cap] w (RetIEB (nbits a) 0 w) := by
  have hc := bits_any A cap (limbs a) w h (limbs_lim a) (len18 ha)
  rw [if_pos (rightL_limbs ha), lval_limbs] at hc
  exact hc.mono fun _ _ h => by
    obtain ⟨rfl, n, rfl⟩ := h
    exact ⟨rfl, bel_drewN (bel_refl _) _⟩
theorem bits_wrong (A : Option Addr) (cap : Nat) (xs : List Nat) (w : World) (h : RdL w A xs) (hx : Lim xs) (hl : xs.length ≤ 18) (hr : rightL xs = false) :
    Calls Try.prog 79 #[.slice A xs.length cap] w (RetIEB 0 1 w) := by
  have hc := bits_any A cap xs w h hx hl
  rw [if_neg (by rw [hr]; simp)] at hc
  exact hc.mono fun _ _ h => by
    obtain ⟨rfl, n, rfl⟩ := h
    exact ⟨rfl, bel_drewN (bel_refl _) _⟩
theorem text_num (A : Option Addr) (cap : Nat) (a : Nat) (w : World) (h : RdL w A (limbs a)) (ha : a < Top) :
    Calls Try.prog 16 #[.slice A (limbs a).length cap] w (RetS (dec a) w) := by
  have hc := refText_any A cap (limbs a) w h (limbs_lim a) (len18 ha)
  rwa [lval_limbs] at hc
theorem rightR {a : Nat} (h : a < Top) (A : Option Addr) (cap : Nat) (w : World) (hr : RdL w A (limbs a)) : Calls Try.prog 56 #[.slice A (limbs a).length cap] w (RetBB true w) := by
  have hc := right_bb A cap (limbs a) w hr (len18 h)
  rwa [rightL_limbs h] at hc
theorem refRightR {a : Nat} (h : a < Top) (A : Option Addr) (cap : Nat) (w : World) (hr : RdL w A (limbs a)) : Calls Try.prog 29 #[.slice A (limbs a).length cap] w (RetBB true w) := by
  have hc := refRight_bb A cap (limbs a) w hr (len18 h)
  rwa [rightL_limbs h] at hc
/-- A number that may be is the limbs of one below 2^512. -/
theorem right_num {xs : List Nat} (hx : Lim xs) (h : rightL xs = true) : ∃ n, xs = limbs n ∧ n < Top := by
  obtain ⟨a, b⟩ := (rightL_iff hx).1 h
  exact ⟨lval xs, a.symm, b⟩
theorem div_neg {xs ys : List Nat} (h : (rightL xs && rightL ys) = false) : rightL xs = false ∨ (rightL xs = true ∧ rightL ys = false) := by
  cases h1 : rightL xs
  · exact .inl rfl
  · rw [h1, Bool.true_and] at h
    exact .inr ⟨rfl, h⟩
theorem limbs0 : (limbs 0).length = 0 := rfl
end Go.Proofs.Ytmbbdjpnecjleaa
