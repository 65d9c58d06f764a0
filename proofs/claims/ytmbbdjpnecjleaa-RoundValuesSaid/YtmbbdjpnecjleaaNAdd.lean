/-
  Add, walked.
-/
import Derived.Test.YtmbbdjpnecjleaaNCmp
namespace Go.Proofs.Ytmbbdjpnecjleaa
set_option maxRecDepth 100000
open Go.RowKit

/-- Limbs that the call has laid so far. -/
structure OutL (w wr : World) (v : Value) (xs : List Nat) : Prop where
  old : Below w.heap.size w wr
  own : wr.ownsRow w.heap.size 80 1 v xs.length (nums .u32 xs)
  lim : Lim xs
theorem OutL.start (w : World) {w' : World} (hb : Below w.heap.size w w') : OutL w w' (.slice none 0 0) [] := ⟨hb, own_nil _ _ _ _, by intro x hx; simp at hx⟩
theorem OutL.more {w wr w' : World} {v v' : Value} {xs : List Nat} {x : Nat} (h : OutL w wr v xs) (hx : x < B32) (hb : Below w.heap.size wr w') (ho : w'.ownsRow w.heap.size 80 1 v' (xs.length + 1) (nums .u32 xs ++ [.int .u32 (x : Int)])) : OutL w w' v' (xs ++ [x]) := by
  refine ⟨h.old.trans hb, ?_, ?_⟩
  · rw [nums_app] at ho
    rw [List.length_append]
    exact ho
  · intro y hy
    rcases List.mem_append.1 hy with hy | hy
    · exact h.lim y hy
    · rw [List.mem_singleton.1 hy]; exact hx
theorem OutL.keep {w wr w' : World} {v : Value} {xs : List Nat} (h : OutL w wr v xs) (hb : Below wr.heap.size wr w') : OutL w w' v xs := ⟨bel_trans h.old hb, own_below h.own hb, h.lim⟩

theorem lval_drop (xs : List Nat) (k : Nat) : lval (xs.drop k) = xs.getD k 0 + B32 * lval (xs.drop (k + 1)) := by
  by_cases h : k < xs.length
  · rw [List.drop_eq_getElem_cons h, List.getD_eq_getElem?_getD, List.getElem?_eq_getElem h]
    rfl
  · rw [List.drop_of_length_le (by omega), List.drop_of_length_le (by omega), List.getD_eq_getElem?_getD, List.getElem?_eq_none (by omega)]
    rfl
theorem lval_snoc (xs : List Nat) (x : Nat) : lval (xs ++ [x]) = lval xs + B32 ^ xs.length * x := val_snoc _ _ _
/-- One step of the carry. -/
theorem carry_step (P s r : Nat) : P * (s % B32) + P * B32 * (s / B32 + r) = P * (s + B32 * r) := by
  have h := Nat.mod_add_div s B32
  rw [Nat.mul_assoc, ← Nat.mul_add, Nat.mul_add B32, ← Nat.add_assoc, h]

/-- How far the sum is. -/
structure AddRel (w wr : World) (xs ys : List Nat) (v : Value) (k c : Nat) (out : List Nat) : Prop where
  row : OutL w wr v out
  len : out.length = k
  carry : c ≤ 1
  sum : lval out + B32 ^ k * (c + (lval (xs.drop k) + lval (ys.drop k))) = lval xs + lval ys

theorem AddRel.step {w wr w' : World} {xs ys out : List Nat} {v v' : Value} {k c x y : Nat} (h : AddRel w wr xs ys v k c out) (hx : x = xs.getD k 0) (hy : y = ys.getD k 0) (h1 : x < B32) (h2 : y < B32)
    (ho : OutL w w' v' (out ++ [(c + (x + y)) % B32])) : AddRel w w' xs ys v' (k + 1) ((c + (x + y)) / B32) (out ++ [(c + (x + y)) % B32]) := by
  refine ⟨ho, by rw [List.length_append, h.len]; rfl, ?_, ?_⟩
  · have := h.carry
    have e := B32_eq
    rw [e] at h1 h2 ⊢
    omega
  · rw [lval_snoc, h.len, Nat.add_assoc, Nat.pow_succ, carry_step, ← h.sum, lval_drop xs k, lval_drop ys k, ← hx, ← hy, Nat.mul_add B32]
    congr 2
    omega

theorem lval_le_pow {xs : List Nat} (hx : Lim xs) {m : Nat} (h : xs.length ≤ m) : lval xs < B32 ^ m := Nat.lt_of_lt_of_le (lval_lt hx) (Nat.pow_le_pow_right (by decide) h)
theorem AddRel.done {w wr : World} {xs ys out : List Nat} {v : Value} {k c m : Nat} (h : AddRel w wr xs ys v k c out) (hx : Lim xs) (hy : Lim ys) (h1 : xs.length ≤ m) (h2 : ys.length ≤ m) (hk : k = m + 1) : lval out = lval xs + lval ys := by
  subst hk
  have hs := h.sum
  rw [List.drop_of_length_le (by omega), List.drop_of_length_le (by omega)] at hs
  have hz : lval [] = 0 := rfl
  simp only [hz, Nat.add_zero] at hs
  have e1 := lval_le_pow hx h1
  have e2 := lval_le_pow hy h2
  rw [Nat.pow_succ] at hs
  generalize B32 ^ m = P at hs e1 e2
  have h3 : P * B32 * c = B32 * (P * c) := by rw [Nat.mul_comm P, Nat.mul_assoc]
  have hc : c = 0 := by
    rcases Nat.eq_zero_or_pos c with h0 | h0
    · exact h0
    · have h4 : P * 1 ≤ P * c := Nat.mul_le_mul_left _ h0
      rw [Nat.mul_one] at h4
      have h5 : 2 * (P * c) ≤ B32 * (P * c) := Nat.mul_le_mul_right _ B32_two
      omega
  rw [hc, Nat.mul_zero, Nat.add_zero] at hs
  exact hs

set_option maxRecDepth 100000 in
set_option maxHeartbeats 1000000 in
theorem add_right (A A' : Option Addr) (cap cap' : Nat) (xs ys : List Nat) (w : World) (h : RdL w A xs) (h' : RdL w A' ys) (hx : Lim xs) (hy : Lim ys) (hr : rightL xs = true) (hr' : rightL ys = true) (hl : xs.length ≤ 16) (hl' : ys.length ≤ 16) :
    Calls Try.prog 99 #[.slice A xs.length cap, .slice A' ys.length cap'] w (RetNE (fitN (lval xs + lval ys)) (fitC (lval xs + lval ys)) w) := by
  have H := Lib.hid h; clear h
  have H' := Lib.hid h'; clear h'
  have HX := Lib.hid hx; clear hx
  have HY := Lib.hid hy; clear hy
  obtain ⟨m, hm⟩ : ∃ m, m = max xs.length ys.length := ⟨_, rfl⟩
  have hmax : ∀ W, (Builtin.max_ #[3, 3] 3 #[.int .i64 (xs.length : Int), .int .i64 (ys.length : Int)]).run Try.prog W = .ok (.int .i64 (m : Int)) W := fun W => by
    rw [run_max_int2, hm]
    congr 2
    omega
  have hm1 : xs.length ≤ m := by omega
  have hm2 : ys.length ≤ m := by omega
  have hm3 : m ≤ 16 := by omega
  have HM := Lib.hid hm; clear hm
  go_enter Try.func99, Try.ntmps99
  go_wp2_with fail
  refine (both_any A A' cap cap' xs ys _ H.out H'.out (by omega) (by omega)).mono ?_
  rintro e w1 ⟨rfl, n, rfl⟩
  rw [hr, hr']
  have HR := Lib.hid hr; clear hr
  have HR' := Lib.hid hr'; clear hr'
  go_wp2
  go_loopw [6, 7, 8, 19] (fun v cv _ i wr => ∃ (k c : Nat) (out : List Nat), i = .int .i64 (k : Int) ∧ cv = .int .u64 (c : Int) ∧ k ≤ m + 1 ∧ AddRel w wr xs ys v k c out) (fun _ _ _ i _ => m + 1 - (intOf i).toNat)
  case atStart => exact ⟨0, 0, [], rfl, rfl, by omega, OutL.start w (bel_drewN (bel_refl _) _), rfl, by omega, by simp [lval, val]⟩
  case round =>
    obtain ⟨k, c, out, rfl, rfl, hk, hrel⟩ := hrel
    have HA := Lib.hid hrel; clear hrel
    by_cases hlt : k < m + 1
    · have hlt' : (k : Int) < (m : Int) + 1 := by omega
      obtain ⟨x, hx⟩ : ∃ x, x = xs.getD k 0 := ⟨_, rfl⟩
      obtain ⟨y, hy⟩ : ∃ y, y = ys.getD k 0 := ⟨_, rfl⟩
      have hx1 := HX.out.get k
      have hy1 := HY.out.get k
      rw [← hx] at hx1
      rw [← hy] at hy1
      have Ex := Lib.hid hx; clear hx
      have Ey := Lib.hid hy; clear hy
      have hc1 := HA.out.carry
      obtain ⟨s, hs⟩ : ∃ s, s = x + y := ⟨_, rfl⟩
      obtain ⟨t, ht⟩ : ∃ t, t = c + s := ⟨_, rfl⟩
      have s1 : IntKind.u64.wrap ((x : Int) + (y : Int)) = (s : Int) := by rw [IntKind.wrap_u64]; omega
      have s2 : IntKind.u64.wrap ((c : Int) + (s : Int)) = (t : Int) := by rw [IntKind.wrap_u64]; omega
      obtain ⟨l, hl3⟩ : ∃ l, l = t % B32 := ⟨_, rfl⟩
      obtain ⟨c', hc'⟩ : ∃ c', c' = t / B32 := ⟨_, rfl⟩
      have s3 : IntKind.u32.wrap (t : Int) = (l : Int) := by rw [IntKind.wrap_u32', hl3, B32_eq]; omega
      have s4 : (t : Int) / 4294967296 = (c' : Int) := by rw [hc', B32_eq]; omega
      have hk16 : out.length ≤ 17 := by have := HA.out.len; omega
      have HS := Lib.hid (And.intro hs (And.intro ht (And.intro hl3 (And.intro hc' (And.intro hx1 hy1))))); clear hs ht hl3 hc' hx1 hy1 hc1
      have RX := Lib.hid (H.out.below HA.out.row.old)
      have RY := Lib.hid (H'.out.below HA.out.row.old)
      go_wp2_with first
        | (go_at_call 103; (with_reducible refine (at_any A cap xs k _ RX.out HX.out).mono ?_); rintro e w' ⟨rfl, n1, rfl⟩; rw [← Ex.out])
        | (go_at_call 103; (with_reducible refine (at_any A' cap' ys k _ (RY.out.drewN _) HY.out).mono ?_); rintro e w' ⟨rfl, n1, rfl⟩; rw [← Ey.out])
        | (at_builtin; refine wpList_push _ rfl _ _ 23 rfl w.heap.size 80 (.int .u32 0) 4 (by kernel_rfl) info_u32 rfl _ out.length (nums .u32 out) rfl (.int .u32 (l : Int)) rfl rfl (own_below HA.out.row.own (bel_drewN (bel_refl _) _)) (by unfold maxLen; omega) (by omega) HA.out.row.old.size ?_; intro v' w2 hown hbel; have HO := Lib.hid (And.intro hown hbel); clear hown hbel)
      go_roundw
      case rel =>
        refine ⟨k + 1, c', out ++ [l], by go_num, rfl, by omega, ?_⟩
        obtain ⟨es, et, el, ec, hx1, hy1⟩ := HS.out
        subst es et el ec
        exact HA.out.step Ex.out Ey.out hx1 hy1 (HA.out.row.more (Nat.mod_lt _ (by decide)) ((bel_drewN (Below.refl _ _) _).trans HO.out.2) HO.out.1)
      case measure => simp [intOf]; omega
    · have hkm : k = m + 1 := by omega
      have hdone := Lib.hid (HA.out.done HX.out HY.out hm1 hm2 hkm)
      obtain ⟨A9, c9, hv, hc9, hm9, hr9⟩ := own_rdL HA.out.row.own rfl
      subst hv
      have R9 := Lib.hid hr9; clear hr9
      have hlo : out.length ≤ 17 := by have := HA.out.len; omega
      go_wp2_with fail
      refine (fits_any A9 c9 out _ R9.out HA.out.row.lim hc9 (by omega)).mono ?_
      rintro e w2 ⟨v2, rfl, hn2, hb2⟩
      have HN2 := Lib.hid hn2; clear hn2
      have HB2 := Lib.hid hb2; clear hb2
      go_wp2
      go_ret2
      rw [← hdone.out]
      exact ⟨_, rfl, HN2.out, bel_trans HA.out.row.old HB2.out⟩

set_option maxHeartbeats 400000 in
theorem add_wrong (A A' : Option Addr) (cap cap' : Nat) (xs ys : List Nat) (w : World) (h : RdL w A xs) (h' : RdL w A' ys) (hl : xs.length ≤ 4611686018427387900) (hl' : ys.length ≤ 4611686018427387900) (hr : (rightL xs && rightL ys) = false) :
    Calls Try.prog 99 #[.slice A xs.length cap, .slice A' ys.length cap'] w (RetNE 0 1 w) := by
  have H := Lib.hid h; clear h
  have H' := Lib.hid h'; clear h'
  go_enter Try.func99, Try.ntmps99
  go_wp2_with fail
  refine (both_any A A' cap cap' xs ys _ H.out H'.out hl hl').mono ?_
  rintro e w1 ⟨rfl, n, rfl⟩
  rw [hr]
  go_wp2
  go_ret2
  exact ⟨_, rfl, RdN.zero, bel_drewN (bel_refl _) _⟩
end Go.Proofs.Ytmbbdjpnecjleaa
