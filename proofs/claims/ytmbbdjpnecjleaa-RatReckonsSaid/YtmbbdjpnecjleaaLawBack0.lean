/-
  What the law RatBack asks of numbers.
-/
import Derived.Test.YtmbbdjpnecjleaaLBase
import Derived.Test.YtmbbdjpnecjleaaQCmp
import Derived.Test.YtmbbdjpnecjleaaQMul
import Derived.Deep.DeepCutAuto
namespace Go.Proofs.Ytmbbdjpnecjleaa
open Go.RowKit

/-- An answer: too great, or this fraction. -/
structure Ans (q f : Q) (e : Int) (k : Bool) : Prop where
  over : k = true → q = noQ ∧ e = 2
  fine : k = false → q = f ∧ e = 0 ∧ f.n < Top ∧ f.d < Top ∧ QR f
theorem sumQ_fit {s s' : Bool} {x y z : Nat} (hx : x < Top) (hy : y < Top) (hxy : x + y < Top) (hz : z < Top) (h0 : z ≠ 0) : (sumQ s s' x y z).n < Top ∧ (sumQ s s' x y z).d < Top ∧ QR (sumQ s s' x y z) := by
  unfold sumQ
  split
  · exact redQ_fit hxy hz h0 rfl
  · split
    · exact redQ_fit (lt_top (Nat.sub_le _ _) hy) hz h0 rfl
    · exact redQ_fit (lt_top (Nat.sub_le _ _) hx) hz h0 rfl
theorem ans_add (a b : Q) (l : Bool) (ha : a.d ≠ 0) (hb : b.d ≠ 0) : ∃ q e, Ans q (sumQ a.s (b.s != l) (a.n * b.d) (b.n * a.d) (a.d * b.d)) e (decide (Top ≤ a.n * b.d + b.n * a.d) || decide (Top ≤ a.d * b.d)) ∧
    (¬ (a.n * b.d < Top ∧ b.n * a.d < Top ∧ a.d * b.d < Top ∧ a.n * b.d + b.n * a.d < Top) → q = noQ ∧ e = 2) ∧ (a.n * b.d < Top → b.n * a.d < Top → a.d * b.d < Top → a.n * b.d + b.n * a.d < Top → sumQ a.s (b.s != l) (a.n * b.d) (b.n * a.d) (a.d * b.d) = q ∧ e = 0) := by
  by_cases h : a.n * b.d < Top ∧ b.n * a.d < Top ∧ a.d * b.d < Top ∧ a.n * b.d + b.n * a.d < Top
  · refine ⟨_, 0, ⟨fun hk => ?_, fun _ => ⟨rfl, rfl, sumQ_fit h.1 h.2.1 h.2.2.2 h.2.2.1 (den_ne ha hb)⟩⟩, fun h' => absurd h h', fun _ _ _ _ => ⟨rfl, rfl⟩⟩
    rw [decide_eq_false (by omega), decide_eq_false (by omega)] at hk
    cases hk
  · refine ⟨noQ, 2, ⟨fun _ => ⟨rfl, rfl⟩, fun hk => ?_⟩, fun _ => ⟨rfl, rfl⟩, fun h1 h2 h3 h4 => absurd ⟨h1, h2, h3, h4⟩ h⟩
    rw [Bool.or_eq_false_iff] at hk
    have h1 := of_decide_eq_false hk.1
    have h2 := of_decide_eq_false hk.2
    exact absurd ⟨by omega, by omega, by omega, by omega⟩ h
theorem ans_red (s : Bool) (x y : Nat) (hy : y ≠ 0) : ∃ q e, Ans q (redQ s x y) e (overB false x y) ∧ (¬ (x < Top ∧ y < Top) → q = noQ ∧ e = 2) ∧ (x < Top → y < Top → redQ s x y = q ∧ e = 0) := by
  unfold overB
  by_cases h : x < Top ∧ y < Top
  · refine ⟨_, 0, ⟨fun hk => ?_, fun _ => ⟨rfl, rfl, redQ_fit h.1 h.2 hy rfl⟩⟩, fun h' => absurd h h', fun _ _ => ⟨rfl, rfl⟩⟩
    rw [decide_eq_false (by omega), decide_eq_false (by omega)] at hk
    cases hk
  · refine ⟨noQ, 2, ⟨fun _ => ⟨rfl, rfl⟩, fun hk => ?_⟩, fun _ => ⟨rfl, rfl⟩, fun h1 h2 => absurd ⟨h1, h2⟩ h⟩
    rw [Bool.false_or, Bool.or_eq_false_iff] at hk
    have h1 := of_decide_eq_false hk.1
    have h2 := of_decide_eq_false hk.2
    exact absurd ⟨by omega, by omega⟩ h
theorem Ans.good {q f : Q} {e : Int} {k : Bool} (h : Ans q f e k) (hk : k = false) : e = 0 ∧ q = f ∧ q.n < Top ∧ q.d < Top ∧ QR q := by
  obtain ⟨h1, h2, h3, h4, h5⟩ := h.fine hk
  rw [h1]
  exact ⟨h2, rfl, h3, h4, h5⟩
structure BkRel (w : World) (s s' : Bool) (A B A' B' : Option Addr) (c d c' d' : Nat) (xs ys xs' ys' : List Nat) (wx : World) : Prop where
  old : Below w.heap.size w wx
  cx : Blk wx w.heap.size 25 #[.bool s, .slice A xs.length c, .slice B ys.length d]
  cy : Blk wx (w.heap.size + 1) 25 #[.bool s', .slice A' xs'.length c', .slice B' ys'.length d']
  r1 : RdL wx A xs
  r2 : RdL wx B ys
  r3 : RdL wx A' xs'
  r4 : RdL wx B' ys'
theorem add_turn {a b f : Q} (ha : QR a) (hb : QR b) (hf : sumQ a.s (b.s != false) (a.n * b.d) (b.n * a.d) (a.d * b.d) = f) (hk : (decide (Top ≤ a.n * b.d + b.n * a.d) || decide (Top ≤ a.d * b.d)) = false) :
    (¬ (b.n * a.d < Top ∧ a.n * b.d < Top ∧ b.d * a.d < Top ∧ b.n * a.d + a.n * b.d < Top) → f = noQ ∧ (0 : Int) = 2) ∧ (b.n * a.d < Top → a.n * b.d < Top → b.d * a.d < Top → b.n * a.d + a.n * b.d < Top → sumQ b.s (a.s != false) (b.n * a.d) (a.n * b.d) (b.d * a.d) = f ∧ (0 : Int) = 0) := by
  rw [Bool.or_eq_false_iff] at hk
  have h1 := of_decide_eq_false hk.1
  have h2 := of_decide_eq_false hk.2
  refine ⟨fun h => absurd ⟨by omega, by omega, by rw [Nat.mul_comm]; omega, by omega⟩ h, fun _ _ _ _ => ⟨?_, rfl⟩⟩
  rw [← hf, Bool.bne_false, Bool.bne_false]
  exact add_comm ha hb
theorem sub_back {a b f : Q} (ha : QR a) (hb : QR b) (hf : sumQ a.s (b.s != false) (a.n * b.d) (b.n * a.d) (a.d * b.d) = f) : sumQ f.s (b.s != true) (f.n * b.d) (b.n * f.d) (f.d * b.d) = a := by
  rw [Bool.bne_false] at hf
  have hf' : addQ a b = f := hf
  have := add_back ha hb
  rw [hf'] at this
  rw [Bool.bne_true]
  exact this
theorem quo_back {a b f : Q} (ha : QR a) (hb : QR b) (h0 : b.n ≠ 0) (hf : redQ (a.s != b.s) (a.n * b.n) (a.d * b.d) = f) : redQ (f.s != b.s) (f.n * b.d) (f.d * b.n) = a := by
  have hf' : mulQ a b = f := hf
  have := mul_back ha hb h0
  rw [hf'] at this
  exact this
theorem wrap_cmpS (s s' : Bool) (x y : Nat) : IntKind.i64.wrap (-cmpS s s' x y) = -cmpS s s' x y := by
  rw [IntKind.wrap_i64]
  unfold cmpS
  cases s <;> cases s' <;> simp <;> (try (split <;> (try split))) <;> omega
theorem likeB_q {a b : Q} : likeB a.s b.s (limbs a.n) (limbs a.d) (limbs b.n) (limbs b.d) = decide (a = b) := by
  unfold likeB
  rw [decide_limbs, decide_limbs]
  obtain ⟨s, n, d⟩ := a
  obtain ⟨s', n', d'⟩ := b
  by_cases h : (⟨s, n, d⟩ : Q) = ⟨s', n', d'⟩
  · rw [decide_eq_true h]
    injection h with h1 h2 h3
    simp [h1, h2, h3]
  · rw [decide_eq_false h, Bool.eq_false_iff]
    intro hx
    simp only [Bool.and_eq_true, decide_eq_true_eq] at hx
    exact h (by rw [hx.1.1, hx.1.2, hx.2])
theorem like_cmp {a b : Q} (ha : QR a) (hb : QR b) {v : Int} (hv : cmpS a.s b.s (a.n * b.d) (b.n * a.d) = v) : likeB a.s b.s (limbs a.n) (limbs a.d) (limbs b.n) (limbs b.d) = (v == 0) := by
  rw [likeB_q, ← hv, Bool.eq_iff_iff, decide_eq_true_eq, beq_iff_eq]
  exact (cmpS_zero ha hb).symm
theorem cmp_turned {a b : Q} (ha : QR a) (hb : QR b) {v : Int} (hv : cmpS a.s b.s (a.n * b.d) (b.n * a.d) = v) : cmpS b.s a.s (b.n * a.d) (a.n * b.d) = -v := by
  have := cmpS_turn a.s b.s (a.n * b.d) (b.n * a.d) (fun h => ha.zero (by rcases Nat.mul_eq_zero.1 h with h | h; exact h; exact absurd h hb.den)) (fun h => hb.zero (by rcases Nat.mul_eq_zero.1 h with h | h; exact h; exact absurd h ha.den))
  omega
theorem qcmp_is {v : Int} (A B A' B' : Option Addr) (c d c' d' : Nat) (a b : Q) (w : World) (h1 : RdL w A (limbs a.n)) (h2 : RdL w B (limbs a.d)) (h3 : RdL w A' (limbs b.n)) (h4 : RdL w B' (limbs b.d)) (k1 : (limbs a.n).length ≤ c) (k2 : (limbs a.d).length ≤ d) (k3 : (limbs b.n).length ≤ c') (k4 : (limbs b.d).length ≤ d') (t1 : a.n < Top) (t2 : a.d < Top) (t3 : b.n < Top) (t4 : b.d < Top) (ra : QR a) (rb : QR b) (hf : a.n * b.d < Top ∧ b.n * a.d < Top) (hv : cmpS a.s b.s (a.n * b.d) (b.n * a.d) = v) :
    Calls Try.prog 40 #[.agg #[.bool a.s, .slice A (limbs a.n).length c, .slice B (limbs a.d).length d], .agg #[.bool b.s, .slice A' (limbs b.n).length c', .slice B' (limbs b.d).length d']] w (RetIEB v 0 w) := by
  rw [← hv]
  exact qcmp_ok A B A' B' c d c' d' a b w h1 h2 h3 h4 k1 k2 k3 k4 t1 t2 t3 t4 ra rb hf
theorem qcmp_over (A B A' B' : Option Addr) (c d c' d' : Nat) (a b : Q) (w : World) (h1 : RdL w A (limbs a.n)) (h2 : RdL w B (limbs a.d)) (h3 : RdL w A' (limbs b.n)) (h4 : RdL w B' (limbs b.d)) (k1 : (limbs a.n).length ≤ c) (k2 : (limbs a.d).length ≤ d) (k3 : (limbs b.n).length ≤ c') (k4 : (limbs b.d).length ≤ d') (t1 : a.n < Top) (t2 : a.d < Top) (t3 : b.n < Top) (t4 : b.d < Top) (ra : QR a) (rb : QR b) (hf : ¬ (a.n * b.d < Top ∧ b.n * a.d < Top)) :
    Calls Try.prog 40 #[.agg #[.bool a.s, .slice A (limbs a.n).length c, .slice B (limbs a.d).length d], .agg #[.bool b.s, .slice A' (limbs b.n).length c', .slice B' (limbs b.d).length d']] w (RetIEB 0 2 w) := by
  by_cases h : a.n * b.d < Top
  · exact qcmp_over_y A B A' B' c d c' d' a b w h1 h2 h3 h4 k1 k2 k3 k4 t1 t2 t3 t4 ra rb ⟨h, fun h' => hf ⟨h, h'⟩⟩
  · exact qcmp_over_x A B A' B' c d c' d' a b w h1 h2 h3 h4 k1 k2 k3 k4 t1 t2 t3 t4 ra rb h
end Go.Proofs.Ytmbbdjpnecjleaa
