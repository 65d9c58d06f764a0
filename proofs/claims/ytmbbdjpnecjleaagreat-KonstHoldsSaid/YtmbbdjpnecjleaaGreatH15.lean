/-
 Parts: RoB.
-/
import Derived.Test.YtmbbdjpnecjleaaGreatH14
import Derived.Test.YtmbbdjpnecjleaaGreatH09
namespace Go.Proofs.YtmbbdjpnecjleaaGreat
section
set_option maxRecDepth 100000
set_option maxHeartbeats 1000000
section
open Go.RowKit

def V (p b : Nat) : Nat := if b / 2 ^ (p - 1) = 0 then b else (b % 2 ^ (p - 1) + 2 ^ (p - 1)) * 2 ^ (b / 2 ^ (p - 1) - 1)
theorem V_gen {p f r : Nat} (h1 : r ≤ 2 * 2 ^ (p - 1)) (h2 : f = 0 ∨ 2 ^ (p - 1) ≤ r) : V p (r + f * 2 ^ (p - 1)) = r * 2 ^ f := by
 unfold V
 have hp : 0 < 2 ^ (p - 1) := Nat.pow_pos (by decide)
 generalize 2 ^ (p - 1) = h at *
 rw [Nat.add_mul_div_right _ _ hp, Nat.add_mul_mod_self_right]
 by_cases a : r < h
 · have hf : f = 0 := by omega
   subst hf
   rw [Nat.div_eq_of_lt a, if_pos rfl]
   simp
 by_cases b : r < 2 * h
 · have e1 : r / h = 1 := by
    rw [show r = (r - h) + 1 * h by omega, Nat.add_mul_div_right _ _ hp, Nat.div_eq_of_lt (by omega)]
   have e2 : r % h = r - h := by
    rw [show r = (r - h) + 1 * h by omega, Nat.add_mul_mod_self_right, Nat.mod_eq_of_lt (by omega)]
    omega
   rw [e1, e2, if_neg (by omega), show r - h + h = r by omega, show 1 + f - 1 = f by omega]
 · have e0 : r = 2 * h := by omega
   subst e0
   rw [Nat.mul_div_cancel _ hp, Nat.mul_mod_left, if_neg (by omega), show 2 + f - 1 = f + 1 by omega, Nat.pow_succ]
   grind
theorem V_form (p b : Nat) : ∃ f r, b = r + f * 2 ^ (p - 1) ∧ r < 2 * 2 ^ (p - 1) ∧ (f = 0 ∨ 2 ^ (p - 1) ≤ r) := by
 have hp : 0 < 2 ^ (p - 1) := Nat.pow_pos (by decide)
 generalize 2 ^ (p - 1) = h at *
 have h1 := Nat.div_add_mod b h
 have h2 := Nat.mod_lt b hp
 by_cases a : b / h = 0
 · refine ⟨0, b, by omega, ?_, .inl rfl⟩
   rw [a] at h1
   omega
 · obtain ⟨g, hg⟩ := Nat.exists_eq_succ_of_ne_zero a
   rw [Nat.succ_eq_add_one] at hg
   rw [hg] at h1
   refine ⟨g, b % h + h, ?_, by omega, .inr (by omega)⟩
   have e : h * (g + 1) = g * h + h := by grind
   omega
theorem V_succ (p b : Nat) : V p b < V p (b + 1) := by
 obtain ⟨f, r, rfl, h1, h2⟩ := V_form p b
 rw [V_gen (by omega) h2, show r + f * 2 ^ (p - 1) + 1 = (r + 1) + f * 2 ^ (p - 1) by omega, V_gen (by omega) (by omega)]
 exact Nat.mul_lt_mul_of_pos_right (by omega) (Nat.pow_pos (by decide))
theorem V_lt {p a b : Nat} (h : a < b) : V p a < V p b := by
 obtain ⟨k, rfl⟩ : ∃ k, b = a + 1 + k := ⟨b - a - 1, by omega⟩
 clear h
 induction k with
 | zero => exact V_succ p a
 | succ k ih => exact Nat.lt_trans ih (V_succ p _)
theorem V_le {p a b : Nat} (h : a ≤ b) : V p a ≤ V p b := by
 rcases Nat.lt_or_eq_of_le h with h | rfl
 · exact Nat.le_of_lt (V_lt h)
 · exact Nat.le_refl _
theorem V_lt_iff {p a b : Nat} : V p a < V p b ↔ a < b := ⟨fun h => by
 rcases Nat.lt_or_ge a b with h1 | h1
 · exact h1
 · have := V_le (p := p) h1; omega, V_lt⟩
theorem V_zero (p : Nat) : V p 0 = 0 := by
 unfold V
 rw [Nat.zero_div, if_pos rfl]

def upB (x y n : Nat) (odd : Bool) : Bool := decide (x + y < 2 * n) || (decide (x + y = 2 * n) && odd)
def Code (p q N D c : Nat) (ex : Bool) : Prop := ∃ lo, V p lo * D ≤ N * 2 ^ q ∧ N * 2 ^ q < V p (lo + 1) * D ∧ c = lo + (upB (V p lo * D) (V p (lo + 1) * D) (N * 2 ^ q) (decide (lo % 2 = 1))).toNat ∧ ex = decide (V p lo * D = N * 2 ^ q)
theorem lo_le {p x y D E lo lo' : Nat} (hD : 0 < D) (h : x * E ≤ y * D) (h1 : V p lo * D ≤ x) (h2 : y < V p (lo' + 1) * E) : lo ≤ lo' := by
 have h3 : V p lo * D * E ≤ x * E := Nat.mul_le_mul_right _ h1
 have h4 : y * D < V p (lo' + 1) * E * D := Nat.mul_lt_mul_of_pos_right h2 hD
 have h5 : V p lo * (D * E) < V p (lo' + 1) * (D * E) := by
  rw [show V p lo * (D * E) = V p lo * D * E by grind, show V p (lo' + 1) * (D * E) = V p (lo' + 1) * E * D by grind]
  omega
 have h6 := V_lt_iff.1 (Nat.lt_of_mul_lt_mul_right h5)
 omega
theorem Code.mono {p q N D c N' D' c' : Nat} {ex ex' : Bool} (h : Code p q N D c ex) (h' : Code p q N' D' c' ex') (hD : 0 < D) (hD' : 0 < D') (hle : N * D' ≤ N' * D) : c ≤ c' := by
 obtain ⟨lo, h1, h2, h3, -⟩ := h
 obtain ⟨lo', h1', h2', h3', -⟩ := h'
 have hx : N * 2 ^ q * D' ≤ N' * 2 ^ q * D := by
  rw [Nat.mul_right_comm, Nat.mul_right_comm N']
  exact Nat.mul_le_mul_right _ hle
 have hl := lo_le hD hx h1 h2'
 rw [h3, h3']
 rcases Nat.lt_or_eq_of_le hl with hlt | rfl
 · have : (upB (V p lo * D) (V p (lo + 1) * D) (N * 2 ^ q) (decide (lo % 2 = 1))).toNat ≤ 1 := Bool.toNat_le _
   omega
 · generalize V p lo = x at *
   generalize V p (lo + 1) = y at *
   generalize N * 2 ^ q = n at *
   generalize N' * 2 ^ q = n' at *
   have key : ∀ b, upB (x * D) (y * D) n b = true → upB (x * D') (y * D') n' b = true := by
    intro b hb
    unfold upB at hb ⊢
    simp only [Bool.or_eq_true, Bool.and_eq_true, decide_eq_true_eq] at hb ⊢
    have e1 : (x * D + y * D) * D' = (x * D' + y * D') * D := by grind
    have e2 : 2 * n * D' ≤ 2 * n' * D := by
     rw [Nat.mul_assoc, Nat.mul_assoc]
     exact Nat.mul_le_mul_left _ hx
    rcases hb with hb | ⟨hb, ho⟩
    · left
      have e3 : (x * D + y * D) * D' < 2 * n * D' := Nat.mul_lt_mul_of_pos_right hb hD'
      refine Nat.lt_of_mul_lt_mul_right (a := D) ?_
      omega
    · rw [hb] at e1
      have e4 : (x * D' + y * D') * D ≤ 2 * n' * D := by omega
      have e5 := Nat.le_of_mul_le_mul_right e4 hD
      rcases Nat.lt_or_eq_of_le e5 with h | h
      · exact .inl h
      · exact .inr ⟨h, ho⟩
   have hk := key (decide (lo % 2 = 1))
   cases ha : upB (x * D) (y * D) n (decide (lo % 2 = 1))
   · simp
   · rw [hk ha]
     exact Nat.le_refl _
theorem Code.congr {p q N D c N' D' c' : Nat} {ex ex' : Bool} (h : Code p q N D c ex) (h' : Code p q N' D' c' ex') (hD : 0 < D) (hD' : 0 < D') (he : N * D' = N' * D) : c = c' :=
 Nat.le_antisymm (h.mono h' hD hD' (Nat.le_of_eq he)) (h'.mono h hD' hD (Nat.le_of_eq he.symm))
theorem Code.exact_iff {p q N D c : Nat} {ex : Bool} (h : Code p q N D c ex) : ex = decide (V p c * D = N * 2 ^ q) := by
 obtain ⟨lo, h1, h2, rfl, rfl⟩ := h
 rw [decide_eq_decide]
 by_cases he : V p lo * D = N * 2 ^ q
 · have hu : upB (V p lo * D) (V p (lo + 1) * D) (N * 2 ^ q) (decide (lo % 2 = 1)) = false := by
    unfold upB
    rw [decide_eq_false (by omega), decide_eq_false (by omega)]
    rfl
   rw [hu]
   simp [he]
 · cases hu : upB (V p lo * D) (V p (lo + 1) * D) (N * 2 ^ q) (decide (lo % 2 = 1))
   · simp [he]
   · simp only [he, Bool.toNat_true, false_iff]
     omega
structure St (p X D f m : Nat) (h r : Bool) : Prop where
 quo : m = X / (D * 2 ^ f) / 2
 half : h = decide (X / (D * 2 ^ f) % 2 = 1)
 more : r = !decide (X % (D * 2 ^ f) = 0)
 low : f = 0 ∨ 2 ^ (p - 1) ≤ m
theorem St.step {p X D f m : Nat} {h r : Bool} (s : St p X D f m h r) (hp : 0 < p) (hD : 0 < D) (hm : m / 2 ^ p ≠ 0) : St p X D (f + 1) (m / 2) (decide (m % 2 = 1)) (r || h) := by
 obtain ⟨s1, s2, s3, -⟩ := s
 have hT : 0 < D * 2 ^ f := Nat.mul_pos hD (Nat.pow_pos (by decide))
 have e : D * 2 ^ (f + 1) = D * 2 ^ f * 2 := by rw [Nat.pow_succ, Nat.mul_assoc]
 generalize D * 2 ^ f = T at *
 refine ⟨by rw [e, ← Nat.div_div_eq_div_mul, s1], by rw [e, ← Nat.div_div_eq_div_mul, s1], ?_, .inr ?_⟩
 · rw [e, Nat.mod_mul, s2, s3]
   by_cases a : X % T = 0
   · rcases Nat.mod_two_eq_zero_or_one (X / T) with b | b
     · simp [a, b]
     · simp [a, b, Nat.ne_of_gt hT]
   · simp [a]
 · have h1 : 2 ^ p ≤ m := by
    rcases Nat.lt_or_ge m (2 ^ p) with h | h
    · exact absurd (Nat.div_eq_of_lt h) hm
    · exact h
   obtain ⟨k, rfl⟩ : ∃ k, p = k + 1 := ⟨p - 1, by omega⟩
   rw [Nat.pow_succ] at h1
   rw [Nat.add_sub_cancel]
   omega
theorem St.code {p q N D f m : Nat} {h r : Bool} (s : St p (N * 2 ^ (q + 1)) D f m h r) (hp : 1 < p) (hD : 0 < D) (hm : m < 2 ^ p) : Code p q N D (m + f * 2 ^ (p - 1) + (h && (r || decide (m % 2 = 1))).toNat) (!h && !r) := by
 obtain ⟨s1, s2, s3, s4⟩ := s
 have hpp : 2 ^ p = 2 * 2 ^ (p - 1) := by
  rw [Nat.mul_comm, ← Nat.pow_succ, show (p - 1).succ = p by omega]
 have hT : 0 < D * 2 ^ f := Nat.mul_pos hD (Nat.pow_pos (by decide))
 have hX : N * 2 ^ (q + 1) = 2 * (N * 2 ^ q) := by rw [Nat.pow_succ]; grind
 rw [hX] at s1 s2 s3
 have v1 : V p (m + f * 2 ^ (p - 1)) = m * 2 ^ f := V_gen (by omega) s4
 have v2 : V p (m + f * 2 ^ (p - 1) + 1) = (m + 1) * 2 ^ f := by
  rw [show m + f * 2 ^ (p - 1) + 1 = (m + 1) + f * 2 ^ (p - 1) by omega]
  exact V_gen (by omega) (by omega)
 have ho : (m + f * 2 ^ (p - 1)) % 2 = m % 2 := by
  obtain ⟨k, hk⟩ : ∃ k, p = k + 2 := ⟨p - 2, by omega⟩
  rw [hk, show k + 2 - 1 = k + 1 by omega, Nat.pow_succ, ← Nat.mul_assoc, Nat.add_mul_mod_self_right]
 refine ⟨m + f * 2 ^ (p - 1), ?_⟩
 rw [v1, v2, ho, show m * 2 ^ f * D = m * (D * 2 ^ f) by grind, show (m + 1) * 2 ^ f * D = m * (D * 2 ^ f) + D * 2 ^ f by grind]
 generalize N * 2 ^ q = n at *
 generalize D * 2 ^ f = T at *
 have d1 := Nat.div_add_mod (2 * n) T
 have d2 := Nat.mod_lt (2 * n) hT
 generalize 2 * n / T = G at *
 generalize 2 * n % T = R at *
 have hG : G = 2 * m + G % 2 := by omega
 have hTG : T * G = 2 * (m * T) + T * (G % 2) := by
  rw [hG, Nat.mul_add, show (2 * m + G % 2) % 2 = G % 2 by omega]
  grind
 rw [hTG] at d1
 generalize m * T = M at *
 have g2 : G % 2 = 0 ∨ G % 2 = 1 := by omega
 rcases g2 with g | g
 · rw [g] at d1 s2
   rw [Nat.mul_zero] at d1
   rw [s2, s3]
   refine ⟨by omega, by omega, ?_, ?_⟩
   · unfold upB
     rw [decide_eq_false (show ¬ M + (M + T) < 2 * n by omega), decide_eq_false (show ¬ M + (M + T) = 2 * n by omega)]
     rfl
   · simp only [decide_eq_false (show ¬ (0 : Nat) = 1 by decide), Bool.not_not, Bool.not_false, Bool.true_and]
     rw [decide_eq_decide]
     omega
 · rw [g] at d1 s2
   rw [Nat.mul_one] at d1
   rw [s2, s3]
   refine ⟨by omega, by omega, ?_, ?_⟩
   · unfold upB
     by_cases hR : R = 0
     · rw [decide_eq_false (show ¬ M + (M + T) < 2 * n by omega), decide_eq_true (show M + (M + T) = 2 * n by omega)]
       simp [hR]
     · rw [decide_eq_true (show M + (M + T) < 2 * n by omega)]
       simp [hR]
   · rw [decide_eq_false (show ¬ M = n by omega)]
     simp
end
section
open Go.RowKit

def mant (p b : Nat) : Nat := if b / 2 ^ (p - 1) = 0 then b else b % 2 ^ (p - 1) + 2 ^ (p - 1)
def expo (p b : Nat) : Nat := b / 2 ^ (p - 1) - 1
def FN (p q b : Nat) : Nat := mant p b * 2 ^ (expo p b - q)
def FD (p q b : Nat) : Nat := 2 ^ (q - expo p b)
theorem V_is (p b : Nat) : V p b = mant p b * 2 ^ expo p b := by
 unfold V mant expo
 by_cases h : b / 2 ^ (p - 1) = 0
 · rw [if_pos h, if_pos h, h]
   simp
 · rw [if_neg h, if_neg h]
theorem FD_pos (p q b : Nat) : 0 < FD p q b := Nat.pow_pos (by decide)
theorem FN_FD (p q b : Nat) : FN p q b * 2 ^ q = V p b * FD p q b := by
 unfold FN FD
 rw [V_is, Nat.mul_assoc, Nat.mul_assoc, ← Nat.pow_add, ← Nat.pow_add]
 congr 2
 omega
theorem code_any (p q N D : Nat) (hD : 0 < D) : ∃ c ex, Code p q N D c ex := by
 have h : ∀ k, N * 2 ^ q < V p k * D → ∃ lo, V p lo * D ≤ N * 2 ^ q ∧ N * 2 ^ q < V p (lo + 1) * D := by
  intro k
  induction k with
  | zero => rw [V_zero, Nat.zero_mul]; intro h; omega
  | succ k ih =>
   intro h
   by_cases hk : N * 2 ^ q < V p k * D
   · exact ih hk
   · exact ⟨k, by omega, h⟩
 have hv : ∀ k, k ≤ V p k := by
  intro k
  induction k with
  | zero => omega
  | succ k ih => have := V_succ p k; omega
 obtain ⟨lo, h1, h2⟩ := h (N * 2 ^ q + 1) (by
  have h3 := hv (N * 2 ^ q + 1)
  have h4 : V p (N * 2 ^ q + 1) ≤ V p (N * 2 ^ q + 1) * D := Nat.le_mul_of_pos_right _ hD
  omega)
 exact ⟨_, _, lo, h1, h2, rfl, rfl⟩
end
section
open Go.RowKit

theorem co_pow {m j : Nat} (h : m % 2 = 1) : Nat.gcd m (2 ^ j) = 1 := by
 have h2 : Nat.Coprime m 2 := by
  unfold Nat.Coprime
  rw [Nat.gcd_comm, Nat.gcd_rec, h]
  rfl
 exact h2.pow_right j
theorem mant_zero {p b : Nat} : mant p b = 0 ↔ b = 0 := by
 unfold mant
 have hp : 0 < 2 ^ (p - 1) := Nat.pow_pos (by decide)
 constructor
 · intro h
   by_cases h1 : b / 2 ^ (p - 1) = 0
   · rwa [if_pos h1] at h
   · rw [if_neg h1] at h; omega
 · rintro rfl
   rw [if_pos (Nat.zero_div _)]
def LN (p q b : Nat) : Nat := FN p q b / Nat.gcd (FN p q b) (FD p q b)
def LD (p q b : Nat) : Nat := FD p q b / Nat.gcd (FN p q b) (FD p q b)
theorem FG_pos (p q b : Nat) : 0 < Nat.gcd (FN p q b) (FD p q b) := Nat.gcd_pos_of_pos_right _ (FD_pos p q b)
theorem L_co (p q b : Nat) : Nat.gcd (LN p q b) (LD p q b) = 1 := Nat.gcd_div_gcd_div_gcd_of_pos_right (FD_pos p q b)
theorem LN_mul (p q b : Nat) : LN p q b * Nat.gcd (FN p q b) (FD p q b) = FN p q b := Nat.div_mul_cancel (Nat.gcd_dvd_left _ _)
theorem LD_mul (p q b : Nat) : LD p q b * Nat.gcd (FN p q b) (FD p q b) = FD p q b := Nat.div_mul_cancel (Nat.gcd_dvd_right _ _)
theorem LD_pos (p q b : Nat) : 0 < LD p q b := by
 have h := LD_mul p q b
 have h2 := FD_pos p q b
 rcases Nat.eq_zero_or_pos (LD p q b) with h0 | h0
 · rw [h0, Nat.zero_mul] at h; omega
 · exact h0
theorem L_eq {p q b n d : Nat} (hc : Nat.gcd n d = 1) (h : n * FD p q b = FN p q b * d) : n = LN p q b ∧ d = LD p q b := by
 have h1 := LN_mul p q b
 have h2 := LD_mul p q b
 have hg := FG_pos p q b
 have e : n * LD p q b = LN p q b * d := by
  refine Nat.eq_of_mul_eq_mul_right hg ?_
  rw [Nat.mul_assoc, h2, h, Nat.mul_right_comm, h1]
 obtain ⟨a, c⟩ := co_uniq (L_co p q b) hc (Nat.ne_of_gt (LD_pos p q b)) e.symm
 exact ⟨a.symm, c.symm⟩
theorem L_odd {p q b k m : Nat} (hm : m * 2 ^ k = mant p b) (ho : m % 2 = 1) : m * 2 ^ (expo p b + k - q) = LN p q b ∧ 2 ^ (q - (expo p b + k)) = LD p q b := by
 have hc : Nat.gcd (m * 2 ^ (expo p b + k - q)) (2 ^ (q - (expo p b + k))) = 1 := by
  rcases Nat.le_total (expo p b + k) q with h | h
  · rw [Nat.sub_eq_zero_of_le h, Nat.pow_zero, Nat.mul_one]
    exact co_pow ho
  · rw [Nat.sub_eq_zero_of_le h, Nat.pow_zero, Nat.gcd_one_right]
 refine L_eq hc ?_
 unfold FN FD
 rw [← hm]
 generalize expo p b = x
 rw [Nat.mul_assoc, Nat.mul_assoc, Nat.mul_assoc, ← Nat.pow_add, ← Nat.pow_add, ← Nat.pow_add]
 congr 2
 omega
theorem L_zero (p q : Nat) : LN p q 0 = 0 ∧ LD p q 0 = 1 := by
 obtain ⟨h1, h2⟩ := L_eq (p := p) (q := q) (b := 0) (n := 0) (d := 1) (by decide) (by
  unfold FN
  rw [mant_zero.2 rfl]
  simp)
 exact ⟨h1.symm, h2.symm⟩
theorem LN_zero {p q b : Nat} : LN p q b = 0 ↔ b = 0 := by
 constructor
 · intro h
   have h1 := LN_mul p q b
   rw [h, Nat.zero_mul] at h1
   unfold FN at h1
   rcases Nat.mul_eq_zero.1 h1.symm with h2 | h2
   · exact mant_zero.1 h2
   · have := Nat.pow_pos (n := expo p b - q) (show 0 < 2 by decide); omega
 · rintro rfl; exact (L_zero p q).1
theorem L_val (p q b : Nat) : V p b * LD p q b = LN p q b * 2 ^ q := by
 have h := FN_FD p q b
 have h1 := LN_mul p q b
 have h2 := LD_mul p q b
 refine Nat.eq_of_mul_eq_mul_right (FG_pos p q b) ?_
 rw [Nat.mul_assoc, h2, ← h, Nat.mul_right_comm, h1]
theorem redQ_low {s : Bool} {n d : Nat} (hc : Nat.gcd n d = 1) (h0 : n ≠ 0) : redQ s n d = ⟨s, n, d⟩ := by
 unfold redQ
 rw [if_neg h0, hc, Nat.div_one, Nat.div_one]
def valQ (s : Bool) (p q b : Nat) : Q := ⟨s, LN p q b, LD p q b⟩
theorem redQ_L {s : Bool} {p q b : Nat} (h : b = 0 → s = false) : redQ s (LN p q b) (LD p q b) = valQ s p q b := by
 by_cases h0 : b = 0
 · rw [h h0, h0]
   unfold redQ valQ
   rw [(L_zero p q).1, (L_zero p q).2, if_pos rfl]
 · exact redQ_low (L_co p q b) (mt LN_zero.1 h0)
theorem valQ_right {s : Bool} {p q b : Nat} (h : b = 0 → s = false) : QR (valQ s p q b) := by
 rw [← redQ_L h]
 exact redQ_right _ _ _ (Nat.ne_of_gt (LD_pos p q b))
end
end
end Go.Proofs.YtmbbdjpnecjleaaGreat
