/-
 Parts: K35 K36.
-/
import Derived.Test.YtmbbdjpnecjleaaGreatH32
import Derived.Test.YtmbbdjpnecjleaaGreatH33
import Derived.Test.YtmbbdjpnecjleaaGreatH30
namespace Go.Proofs.YtmbbdjpnecjleaaGreat
section
set_option maxRecDepth 100000
set_option maxHeartbeats 1000000
open Go.RowKit

theorem up_no {a b : Nat} (o : Bool) (h : a < b) : upB a b a o = false := by
 unfold upB
 have h1 : ¬ a + b < 2 * a := by omega
 have h2 : ¬ a + b = 2 * a := by omega
 simp [h1, h2]
theorem code_own (p q b : Nat) : Code p q (LN p q b) (LD p q b) b true := by
 refine ⟨b, Nat.le_of_eq (L_val p q b), ?_, ?_, ?_⟩
 · rw [← L_val]
   exact Nat.mul_lt_mul_of_pos_right (V_succ p b) (LD_pos p q b)
 · rw [← L_val, up_no _ (Nat.mul_lt_mul_of_pos_right (V_succ p b) (LD_pos p q b))]
   rfl
 · rw [L_val]
   simp
theorem fl_again {q v : Q} {sz : Int} (h : FlFit q sz v) : FlFit v sz v := by
 obtain ⟨p, u, t, cc, ex, hf, hC, ho, h1, h2, rfl⟩ := h
 refine ⟨p, u, t, cc, true, hf, code_own p u cc, ho, h1, h2, ?_⟩
 show valQ _ p u cc = valQ ((valQ (q.s && decide (cc ≠ 0)) p u cc).s && decide (cc ≠ 0)) p u cc
 show valQ _ p u cc = valQ ((q.s && decide (cc ≠ 0)) && decide (cc ≠ 0)) p u cc
 rw [Bool.and_assoc, Bool.and_self]
theorem fits_again {q v : Q} {t : Int} (h : FitsR q t v 0) : FitsR v t v 0 := by
 rcases h with ⟨_, _, h⟩ | ⟨_, _, _, _, h⟩ | ⟨h1, h2, h3, h4, rfl, _⟩ | ⟨ht, ⟨_, _, h⟩ | ⟨h, _⟩⟩ | ⟨ht, ⟨_, _, h⟩ | ⟨h, _⟩⟩ | ⟨h1, h2, h3, h4, rfl, _⟩
 · cases h
 · cases h
 · exact .inr (.inr (.inl ⟨h1, h2, h3, h4, rfl, rfl⟩))
 · cases h
 · exact .inr (.inr (.inr (.inl ⟨ht, .inr ⟨fl_again h, rfl⟩⟩)))
 · cases h
 · exact .inr (.inr (.inr (.inr (.inl ⟨ht, .inr ⟨fl_again h, rfl⟩⟩))))
 · exact .inr (.inr (.inr (.inr (.inr ⟨h1, h2, h3, h4, rfl, rfl⟩))))
inductive HOK (t : Int) : Int → Bool → ByteArray → Q → Int → Prop
 | err (e : Int) (h : e ≠ 0) : HOK t 0 false ⟨#[]⟩ noQ e
 | one (b : Bool) (h : truthB t = true) : HOK t 1 b ⟨#[]⟩ noQ 0
 | two (s : ByteArray) (h : s.size ≤ 200) (hw : wordsB t = true) : HOK t 2 false s noQ 0
 | num (q : Q) (h : Fit q) (hf : FitsR q t q 0) (hb : basB t = true) : HOK t 3 false ⟨#[]⟩ q 0
theorem ans_fit {q f : Q} {e : Int} {k : Bool} (h : Ans q f e k) : (e = 0 → Fit q) ∧ (e ≠ 0 → q = noQ) := by
 cases k
 · obtain ⟨rfl, rfl, hq⟩ := h.fine rfl
   exact ⟨fun _ => hq, fun h => absurd rfl h⟩
 · obtain ⟨rfl, rfl⟩ := h.over rfl
   exact ⟨fun h => absurd h (by decide), fun _ => rfl⟩
theorem fit_ex (q : Q) (t : Int) (hq : Fit q) (hb : basB t = true) : ∃ v r, (∀ W A B c d, RdL W A (limbs q.n) → RdL W B (limbs q.d) → (limbs q.n).length ≤ c → (limbs q.d).length ≤ d → Calls Tryz.prog 29 #[.agg #[.int .i64 3, .bool false, .string ⟨#[]⟩, .bool q.s, .slice A (limbs q.n).length c, .slice B (limbs q.d).length d], .int .i64 t] W (RetV (rk r) false ⟨#[]⟩ v r W)) ∧
 FitsR q t v r ∧ HOK t (rk r) false ⟨#[]⟩ v r := by
 obtain ⟨v, r, hF⟩ := kfits_any q t hq.2.2.den
 refine ⟨v, r, fun W A B c d h1 h2 k1 k2 => kFits_is t q A B c d W h1 h2 k1 k2 hq.1 hq.2.1 hq.2.2 hF rfl, hF, ?_⟩
 unfold rk
 by_cases hr : r = 0
 · rw [if_pos hr]
   obtain rfl := hr
   exact .num v (fits_fit hF hq rfl) (fits_again hF) hb
 · rw [if_neg hr, fits_bad hF hr]
   exact .err r hr
theorem hok_bad {t e : Int} (h : e ≠ 0) : HOK t (rk e) false ⟨#[]⟩ noQ e := by
 unfold rk
 rw [if_neg h]
 exact .err e h
end
end Go.Proofs.YtmbbdjpnecjleaaGreat
namespace Go.Proofs.YtmbbdjpnecjleaaGreat
section
set_option maxRecDepth 100000
set_option maxHeartbeats 1000000
open Go.RowKit

theorem quo_exK (a b : Q) (t : Int) (ha : Fit a) (hb : Fit b) (h0 : b.n ≠ 0) : ∃ q e, (e = 0 → Fit q) ∧ (e ≠ 0 → q = noQ) ∧ (∀ W A B A' B' c d c' d', RdL W A (limbs a.n) → RdL W B (limbs a.d) → RdL W A' (limbs b.n) → RdL W B' (limbs b.d) → (limbs a.n).length ≤ c → (limbs a.d).length ≤ d → (limbs b.n).length ≤ c' → (limbs b.d).length ≤ d' → Calls Tryz.prog 57 #[.agg #[.bool a.s, .slice A (limbs a.n).length c, .slice B (limbs a.d).length d], .agg #[.bool b.s, .slice A' (limbs b.n).length c', .slice B' (limbs b.d).length d'], .int .i64 t] W (RetQE q e W)) ∧ (wholeB t = true → a.d = 1 → b.d = 1 → e = 0 ∧ q = ⟨decide (a.n / b.n ≠ 0) && (a.s != b.s), a.n / b.n, 1⟩) := by
 obtain ⟨q, e, hA, hov, hok⟩ := ans_red (a.s != b.s) (a.n * b.d) (a.d * b.n) (Nat.mul_ne_zero ha.2.2.den h0)
 have hP : ∀ W A B A' B' c d c' d', RdL W A (limbs a.n) → RdL W B (limbs a.d) → RdL W A' (limbs b.n) → RdL W B' (limbs b.d) → (limbs a.n).length ≤ c → (limbs a.d).length ≤ d → (limbs b.n).length ≤ c' → (limbs b.d).length ≤ d' → Calls Tryz.prog 101 #[.agg #[.bool a.s, .slice A (limbs a.n).length c, .slice B (limbs a.d).length d], .agg #[.bool b.s, .slice A' (limbs b.n).length c', .slice B' (limbs b.d).length d']] W (RetQE q e W) := fun W A B A' B' c d c' d' h1 h2 h3 h4 k1 k2 k3 k4 => quo_walk A B A' B' c d c' d' a b W h1 h2 h3 h4 k1 k2 k3 k4 ha.1 ha.2.1 hb.1 hb.2.1 ha.2.2 hb.2.2 h0 hov hok
 have hW : a.d = 1 → b.d = 1 → overB false (a.n * b.d) (a.d * b.n) = false ∧ (redQ (a.s != b.s) (a.n * b.d) (a.d * b.n)).n / (redQ (a.s != b.s) (a.n * b.d) (a.d * b.n)).d = a.n / b.n ∧ (a.n / b.n ≠ 0 → (redQ (a.s != b.s) (a.n * b.d) (a.d * b.n)).s = (a.s != b.s)) := by
  intro e1 e2
  rw [e1, e2, Nat.mul_one, Nat.one_mul]
  have g1 := ha.1
  have g2 := hb.1
  refine ⟨by unfold overB; rw [decide_eq_false (by omega), decide_eq_false (by omega)]; rfl, ?_, ?_⟩
  · unfold redQ
    split
    · rename_i hz
      rw [hz, Nat.zero_div, Nat.zero_div]
    · show a.n / Nat.gcd a.n b.n / (b.n / Nat.gcd a.n b.n) = a.n / b.n
      rw [Nat.div_div_eq_div_mul, Nat.mul_div_cancel' (Nat.gcd_dvd_right _ _)]
  · intro hz
    unfold redQ
    rw [if_neg (by rintro e; rw [e, Nat.zero_div] at hz; exact hz rfl)]
 generalize redQ (a.s != b.s) (a.n * b.d) (a.d * b.n) = f at *
 generalize overB false (a.n * b.d) (a.d * b.n) = k at *
 clear hov hok
 cases hw : wholeB t
 · refine ⟨q, e, (ans_fit hA).1, (ans_fit hA).2, ?_, fun h => by cases h⟩
   intro W A B A' B' c d c' d' h1 h2 h3 h4 k1 k2 k3 k4
   by_cases he : e = 0
   · subst he
     exact kQuo_free t a b A B A' B' c d c' d' W h1 h2 h3 h4 k1 k2 k3 k4 hP hw
   · exact kQuo_bad t a b A B A' B' c d c' d' W h1 h2 h3 h4 k1 k2 k3 k4 hP he
 · cases k
   · obtain ⟨rfl, rfl, f1, f2, f3⟩ := hA.fine rfl
     have hfit := redQ_fit (s := q.s) (n := q.n / q.d) (d := 1) (lt_top (Nat.div_le_self _ _) f1) (by decide +kernel) (by decide) rfl
     refine ⟨_, 0, fun _ => hfit, fun h => absurd rfl h, ?_, fun _ e1 e2 => ⟨rfl, ?_⟩⟩
     rotate_left
     · obtain ⟨-, h1, h2⟩ := hW e1 e2
       rw [h1]
       unfold redQ
       split
       · rename_i hz
         rw [hz]; simp
       · rename_i hz
         rw [Nat.gcd_one_right, Nat.div_one, Nat.div_one, h2 hz, decide_eq_true hz, Bool.true_and]
     intro W A B A' B' c d c' d' h1 h2 h3 h4 k1 k2 k3 k4
     exact kQuo_whole t a b A B A' B' c d c' d' W h1 h2 h3 h4 k1 k2 k3 k4 hP hw f1 f2 f3 rfl
   · obtain ⟨rfl, rfl⟩ := hA.over rfl
     refine ⟨noQ, 2, fun h => absurd h (by decide), fun _ => rfl, ?_, fun _ e1 e2 => absurd (hW e1 e2).1 (by decide)⟩
     intro W A B A' B' c d c' d' h1 h2 h3 h4 k1 k2 k3 k4
     exact kQuo_bad t a b A B A' B' c d c' d' W h1 h2 h3 h4 k1 k2 k3 k4 hP (by decide)
structure OpK (F : FuncId) (cp : Nat → Nat → Nat → Nat → Nat → Nat → Array Value) (a b : Q) (t : Int) (q : Q) (e : Int) : Prop where
 does : DoesQ F cp a b t q e
 fit : e = 0 → Fit q
 bad : e ≠ 0 → q = noQ
theorem opk_of {F : FuncId} {cp : Nat → Nat → Nat → Nat → Nat → Nat → Array Value} {a b q f : Q} {t e : Int} {k : Bool} (h : Ans q f e k) (hD : DoesQ F cp a b t q e) : OpK F cp a b t q e := ⟨hD, (ans_fit h).1, (ans_fit h).2⟩
theorem opk_add (a b : Q) (t : Int) (ha : Fit a) (hb : Fit b) : ∃ q e, OpK 95 (cpG 1) a b t q e := by
 obtain ⟨q, e, hA, hov, hok⟩ := ans_add a b false ha.2.2.den hb.2.2.den
 exact ⟨q, e, opk_of hA (does_add a b t ha hb hov hok)⟩
theorem opk_sub (a b : Q) (t : Int) (ha : Fit a) (hb : Fit b) : ∃ q e, OpK 95 (cpG 2) a b t q e := by
 obtain ⟨q, e, hA, hov, hok⟩ := ans_add a b true ha.2.2.den hb.2.2.den
 exact ⟨q, e, opk_of hA (does_sub a b t ha hb hov hok)⟩
theorem opk_mul (a b : Q) (t : Int) (ha : Fit a) (hb : Fit b) : ∃ q e, OpK 95 (cpG 3) a b t q e := by
 obtain ⟨q, e, hA, hov, hok⟩ := ans_red (a.s != b.s) (a.n * b.n) (a.d * b.d) (den_ne ha.2.2.den hb.2.2.den)
 exact ⟨q, e, opk_of hA (does_mul a b t ha hb hov hok)⟩
theorem opk_quo (a b : Q) (t : Int) (ha : Fit a) (hb : Fit b) : ∃ q e, OpK 57 cpN a b t q e := by
 by_cases h0 : b.n = 0
 · exact ⟨noQ, 4, does_quo a b t (kQuo_nil a b t ha hb h0), fun h => absurd h (by decide), fun _ => rfl⟩
 · obtain ⟨q, e, h1, h2, hP, -⟩ := quo_exK a b t ha hb h0
   exact ⟨q, e, does_quo a b t hP, h1, h2⟩
theorem divK (a b : Q) (t : Int) (ha : Fit a) (hb : Fit b) (hw : wholeB t = true) (hda : a.d = 1) (hdb : b.d = 1) (h0 : b.n ≠ 0) : ∃ q p r e, Fit q ∧ Fit p ∧ (e = 0 → Fit r) ∧ (e ≠ 0 → r = noQ) ∧ OpK 57 cpN a b t q 0 ∧ OpK 95 (cpG 3) q b t p 0 ∧ OpK 58 cpN a b t r e ∧ p.d = 1 ∧
 p = redQ (q.s != b.s) (q.n * b.n) (q.d * b.d) ∧ q.n = a.n / b.n ∧ q.d = 1 ∧ (q.n ≠ 0 → q.s = (a.s != b.s)) ∧ (e = 0 → r = sumQ a.s (p.s != true) (a.n * p.d) (p.n * a.d) (a.d * p.d)) := by
 obtain ⟨q, e0, hq1, hq2, hP, hX⟩ := quo_exK a b t ha hb h0
 obtain ⟨rfl, hqe⟩ := hX hw hda hdb
 have hq := hq1 rfl
 have hqn : q.n = a.n / b.n := by rw [hqe]
 have hqd : q.d = 1 := by rw [hqe]
 have hqs : q.n ≠ 0 → q.s = (a.s != b.s) := by
  intro h
  rw [hqe] at h ⊢
  simp only at h ⊢
  rw [decide_eq_true h, Bool.true_and]
 clear hqe hX
 obtain ⟨p, e1, hA1, hov1, hok1⟩ := ans_red (q.s != b.s) (q.n * b.n) (q.d * b.d) (den_ne hq.2.2.den hb.2.2.den)
 have t1 : q.n * b.n < Top := lt_top (by rw [hqn]; exact Nat.div_mul_le_self _ _) ha.1
 have t2 : q.d * b.d < Top := by rw [hqd, hdb]; exact one_top
 obtain ⟨hp, rfl⟩ := hok1 t1 t2
 have hpF : Fit p := (ans_fit hA1).1 rfl
 have hpd : p.d = 1 := by
  rw [← hp, hqd, hdb]
  unfold redQ
  split
  · rfl
  · rw [Nat.one_mul, Nat.gcd_one_right]
 obtain ⟨r, e2, hA2, hov2, hok2⟩ := ans_add a p true ha.2.2.den hpF.2.2.den
 have hM : ∀ W A B A' B' c d c' d', RdL W A (limbs q.n) → RdL W B (limbs q.d) → RdL W A' (limbs b.n) → RdL W B' (limbs b.d) → (limbs q.n).length ≤ c → (limbs q.d).length ≤ d → (limbs b.n).length ≤ c' → (limbs b.d).length ≤ d' → Calls Tryz.prog 56 #[.agg #[.bool q.s, .slice A (limbs q.n).length c, .slice B (limbs q.d).length d], .agg #[.bool b.s, .slice A' (limbs b.n).length c', .slice B' (limbs b.d).length d']] W (RetQE p 0 W) := fun W A B A' B' c d c' d' h1 h2 h3 h4 k1 k2 k3 k4 => mul_walk A B A' B' c d c' d' q b W h1 h2 h3 h4 k1 k2 k3 k4 hq.1 hq.2.1 hb.1 hb.2.1 hq.2.2 hb.2.2 hov1 hok1
 refine ⟨q, p, r, e2, hq, hpF, (ans_fit hA2).1, (ans_fit hA2).2, ⟨does_quo a b t hP, fun _ => hq, fun h => absurd rfl h⟩, opk_of hA1 (does_mul q b t hq hb hov1 hok1), opk_of hA2 (does_left_fit (q := q) (p := p) a b t hP hM ?_), hpd, hp.symm, hqn, hqd, hqs, ?_⟩
 · intro W A B A' B' c d c' d' h1 h2 h3 h4 k1 k2 k3 k4
   exact sub_of _ _ _ _ _ _ _ _ _ _ _ _ _ _ W (fun w1 hb1 => add_walk true A B A' B' c d c' d' a p w1 (h1.below hb1) (h2.below hb1) (h3.below hb1) (h4.below hb1) k1 k2 k3 k4 ha.1 ha.2.1 hpF.1 hpF.2.1 ha.2.2 hpF.2.2 hov2 hok2)
 · intro he
   generalize (decide (Top ≤ a.n * p.d + p.n * a.d) || decide (Top ≤ a.d * p.d)) = k at hA2
   cases k
   · exact (hA2.fine rfl).1
   · exact absurd ((hA2.over rfl).2.symm.trans he) (by decide)
theorem opk_left (a b : Q) (t : Int) (ha : Fit a) (hb : Fit b) (hw : wholeB t = true) (hda : a.d = 1) (hdb : b.d = 1) : ∃ q e, OpK 58 cpN a b t q e := by
 by_cases h0 : b.n = 0
 · exact ⟨noQ, 4, does_left_bad a b t (kQuo_nil a b t ha hb h0) (by decide), fun h => absurd h (by decide), fun _ => rfl⟩
 · obtain ⟨q, p, r, e, -, -, -, -, -, -, h, -⟩ := divK a b t ha hb hw hda hdb h0
   exact ⟨r, e, h⟩
theorem opk_bit0 (a b : Q) (t : Int) (ha : Fit a) (hb : Fit b) : ∃ q e, OpK 103 (cpG 4) a b t q e := by
 by_cases hs : a.s = false ∧ b.s = false
 · exact ⟨⟨false, bop 0 a.n b.n, 1⟩, 0, does_bit1 a b t ha hb hs.1 hs.2 (red_one15 _), fun _ => fit_whole (bop_top _ ha.1 hb.1), fun h => absurd rfl h⟩
 · have hn : a.s = true ∨ b.s = true := by
    cases ha2 : a.s
    · cases hb2 : b.s
      · exact absurd ⟨ha2, hb2⟩ hs
      · exact .inr rfl
    · exact .inl rfl
   exact ⟨noQ, 2, does_neg1 a b t hn, fun h => absurd h (by decide), fun _ => rfl⟩
theorem opk_bit1 (a b : Q) (t : Int) (ha : Fit a) (hb : Fit b) : ∃ q e, OpK 103 (cpG 5) a b t q e := by
 by_cases hs : a.s = false ∧ b.s = false
 · exact ⟨⟨false, bop 1 a.n b.n, 1⟩, 0, does_bit2 a b t ha hb hs.1 hs.2 (red_one15 _), fun _ => fit_whole (bop_top _ ha.1 hb.1), fun h => absurd rfl h⟩
 · have hn : a.s = true ∨ b.s = true := by
    cases ha2 : a.s
    · cases hb2 : b.s
      · exact absurd ⟨ha2, hb2⟩ hs
      · exact .inr rfl
    · exact .inl rfl
   exact ⟨noQ, 2, does_neg2 a b t hn, fun h => absurd h (by decide), fun _ => rfl⟩
theorem opk_bit2 (a b : Q) (t : Int) (ha : Fit a) (hb : Fit b) : ∃ q e, OpK 103 (cpG 6) a b t q e := by
 by_cases hs : a.s = false ∧ b.s = false
 · exact ⟨⟨false, bop 2 a.n b.n, 1⟩, 0, does_bit3 a b t ha hb hs.1 hs.2 (red_one15 _), fun _ => fit_whole (bop_top _ ha.1 hb.1), fun h => absurd rfl h⟩
 · have hn : a.s = true ∨ b.s = true := by
    cases ha2 : a.s
    · cases hb2 : b.s
      · exact absurd ⟨ha2, hb2⟩ hs
      · exact .inr rfl
    · exact .inl rfl
   exact ⟨noQ, 2, does_neg3 a b t hn, fun h => absurd h (by decide), fun _ => rfl⟩
structure RowK (op : ByteArray) (wh : Bool) (F : FuncId) (cp : Nat → Nat → Nat → Nat → Nat → Nat → Array Value) : Prop where
 look : ∀ g1 g2 g3 g4 g5 g6, lookL .string (.string op) (opsTab g1 g2 g3 g4 g5 g6) = some (some (.agg #[.bool wh, .func (.func F) #[] (cp g1 g2 g3 g4 g5 g6)]))
 call : ∀ vs w, (callFunc F vs).run Tryz.prog w = .ok (.enter F vs) w
 does : ∀ a b t, Fit a → Fit b → (wh = true → wholeB t = true ∧ a.d = 1 ∧ b.d = 1) → ∃ q e, OpK F cp a b t q e
theorem rowK_quo : RowK ⟨#[47]⟩ false 57 cpN := ⟨fun _ _ _ _ _ _ => rfl, fun vs w => by kernel_rfl, fun a b t ha hb _ => opk_quo a b t ha hb⟩
theorem rowK_mul : RowK ⟨#[42]⟩ false 95 (cpG 3) := ⟨fun _ _ _ _ _ _ => rfl, fun vs w => by kernel_rfl, fun a b t ha hb _ => opk_mul a b t ha hb⟩
theorem rowK_add : RowK ⟨#[43]⟩ false 95 (cpG 1) := ⟨fun _ _ _ _ _ _ => rfl, fun vs w => by kernel_rfl, fun a b t ha hb _ => opk_add a b t ha hb⟩
theorem rowK_left : RowK ⟨#[37]⟩ true 58 cpN := ⟨fun _ _ _ _ _ _ => rfl, fun vs w => by kernel_rfl, fun a b t ha hb hw => opk_left a b t ha hb (hw rfl).1 (hw rfl).2.1 (hw rfl).2.2⟩
theorem row_k {op : ByteArray} (h : inB ops8 op = true) : ∃ wh F cp, RowK op wh F cp := by
 unfold inB ops8 at h
 simp only [List.any_cons, List.any_nil, Bool.or_false, Bool.or_eq_true] at h
 rcases h with h | h | h | h | h | h | h | h
 all_goals obtain rfl := byte_eq h; clear h
 · exact ⟨_, _, _, rowK_add⟩
 · exact ⟨false, 95, cpG 2, fun _ _ _ _ _ _ => rfl, fun vs w => by kernel_rfl, fun a b t ha hb _ => opk_sub a b t ha hb⟩
 · exact ⟨_, _, _, rowK_mul⟩
 · exact ⟨_, _, _, rowK_quo⟩
 · exact ⟨_, _, _, rowK_left⟩
 · exact ⟨true, 103, cpG 4, fun _ _ _ _ _ _ => rfl, fun vs w => by kernel_rfl, fun a b t ha hb _ => opk_bit0 a b t ha hb⟩
 · exact ⟨true, 103, cpG 5, fun _ _ _ _ _ _ => rfl, fun vs w => by kernel_rfl, fun a b t ha hb _ => opk_bit1 a b t ha hb⟩
 · exact ⟨true, 103, cpG 6, fun _ _ _ _ _ _ => rfl, fun vs w => by kernel_rfl, fun a b t ha hb _ => opk_bit2 a b t ha hb⟩
theorem num_k {op : ByteArray} {wh : Bool} {F : FuncId} {cp : Nat → Nat → Nat → Nat → Nat → Nat → Array Value} (hr : RowK op wh F cp) (n1 : op ≠ ⟨#[38, 38]⟩) (n2 : op ≠ ⟨#[124, 124]⟩) (a b : Q) (t : Int) (ha : Fit a) (hb : Fit b) (hbas : basB t = true) (hnum : numB t = true) (hw : wh = true → wholeB t = true ∧ a.d = 1 ∧ b.d = 1)
 {q : Q} {e : Int} (hX : OpK F cp a b t q e) : ∃ v r, KBinP op (numV a) (numV b) t (rk r) false ⟨#[]⟩ v r ∧ HOK t (rk r) false ⟨#[]⟩ v r ∧ (e = 0 → FitsR q t v r) ∧ (e ≠ 0 → r = e) := by
 by_cases he : e = 0
 · subst he
   have hq := hX.fit rfl
   obtain ⟨v, r, -, hF, hH⟩ := fit_ex q t hq hbas
   refine ⟨v, r, ?_, hH, fun _ => hF, fun h => absurd rfl h⟩
   rintro A B A' B' c d c' d' W ⟨h1, h2, k1, k2⟩ ⟨h3, h4, k3, k4⟩
   cases wh
   · exact kBin_any op F cp t a b A B A' B' c d c' d' W h1 h2 h3 h4 k1 k2 k3 k4 ha hb hr.call n1 n2 hr.look hX.does hbas hnum (fun _ => hq) (fun _ => ⟨hF, rfl⟩) (fun h => absurd rfl h)
   · exact kBin_whole op F cp t a b A B A' B' c d c' d' W h1 h2 h3 h4 k1 k2 k3 k4 ha hb hr.call n1 n2 hr.look hX.does hbas hnum (hw rfl).1 (hw rfl).2.1 (hw rfl).2.2 (fun _ => hq) (fun _ => ⟨hF, rfl⟩) (fun h => absurd rfl h)
 · obtain rfl := hX.bad he
   refine ⟨noQ, e, ?_, hok_bad he, fun h => absurd h he, fun _ => rfl⟩
   rintro A B A' B' c d c' d' W ⟨h1, h2, k1, k2⟩ ⟨h3, h4, k3, k4⟩
   cases wh
   · exact kBin_any op F cp t a b A B A' B' c d c' d' W h1 h2 h3 h4 k1 k2 k3 k4 ha hb hr.call n1 n2 hr.look hX.does hbas hnum (fun h => absurd h he) (fun h => absurd h he) (fun _ => ⟨rfl, rfl, if_neg he⟩)
   · exact kBin_whole op F cp t a b A B A' B' c d c' d' W h1 h2 h3 h4 k1 k2 k3 k4 ha hb hr.call n1 n2 hr.look hX.does hbas hnum (hw rfl).1 (hw rfl).2.1 (hw rfl).2.2 (fun h => absurd h he) (fun h => absurd h he) (fun _ => ⟨rfl, rfl, if_neg he⟩)
def ResK (op : ByteArray) (a b : VD) (t : Int) : Prop := ∃ k bb s q e, KBinP op a b t k bb s q e ∧ HOK t k bb s q e
theorem res_err {op : ByteArray} {a b : VD} {t e : Int} (he : e ≠ 0) (h1 : KBinP op a b t 0 false ⟨#[]⟩ noQ e) : ResK op a b t := ⟨_, _, _, _, _, h1, .err e he⟩
section
variable {a b : VD} {x y : XD} {t : Int}
theorem and_k (hx : OfR a x) (hy : OfR b y) (la : a.lim) (lb : b.lim) (ra : a.right = true) (rb : b.right = true) (hbas : basB t = true) : ResK ⟨#[38, 38]⟩ a b t := by
 by_cases h : a.k = 1 ∧ b.k = 1 ∧ truthB t = true
 · obtain ⟨u, rfl, rfl⟩ := hx.one_is h.1
   obtain ⟨v, rfl, rfl⟩ := hy.one_is h.2.1
   refine ⟨1, (u && v), ⟨#[]⟩, noQ, 0, ?_, .one _ h.2.2⟩
   intro A B A' B' c d c' d' W hA hB
   exact kBin_and 1 1 u v false false ⟨#[]⟩ ⟨#[]⟩ A B A' B' c d c' d' [] [] [] [] t W hA.1 hA.2.1 hB.1 hB.2.1 la.1 la.2.1 lb.1 lb.2.1 la.2.2.1 la.2.2.2 lb.2.2.1 lb.2.2.2 hA.2.2.1 hA.2.2.2 hB.2.2.1 hB.2.2.2 ra rb hbas (fun W g1 g2 g3 g4 => kLogic_and u v false false ⟨#[]⟩ ⟨#[]⟩ A B A' B' c d c' d' [] [] [] [] t W g1 g2 g3 g4 la.1 la.2.1 lb.1 lb.2.1 la.2.2.1 la.2.2.2 lb.2.2.1 lb.2.2.2 hA.2.2.1 hA.2.2.2 hB.2.2.1 hB.2.2.2 h.2.2)
 · refine res_err (e := 11) (by decide) ?_
   intro A B A' B' c d c' d' W hA hB
   exact kBin_and a.k b.k a.b b.b a.g b.g a.s b.s A B A' B' c d c' d' a.xs a.ys b.xs b.ys t W hA.1 hA.2.1 hB.1 hB.2.1 la.1 la.2.1 lb.1 lb.2.1 la.2.2.1 la.2.2.2 lb.2.2.1 lb.2.2.2 hA.2.2.1 hA.2.2.2 hB.2.2.1 hB.2.2.2 ra rb hbas (fun W g1 g2 g3 g4 => kLogic_type ⟨#[38, 38]⟩ a.k b.k a.b b.b a.g b.g a.s b.s A B A' B' c d c' d' a.xs a.ys b.xs b.ys t W g1 g2 g3 g4 la.1 la.2.1 lb.1 lb.2.1 la.2.2.1 la.2.2.2 lb.2.2.1 lb.2.2.2 hA.2.2.1 hA.2.2.2 hB.2.2.1 hB.2.2.2 h)
theorem or_k (hx : OfR a x) (hy : OfR b y) (la : a.lim) (lb : b.lim) (ra : a.right = true) (rb : b.right = true) (hbas : basB t = true) : ResK ⟨#[124, 124]⟩ a b t := by
 by_cases h : a.k = 1 ∧ b.k = 1 ∧ truthB t = true
 · obtain ⟨u, rfl, rfl⟩ := hx.one_is h.1
   obtain ⟨v, rfl, rfl⟩ := hy.one_is h.2.1
   refine ⟨1, (u || v), ⟨#[]⟩, noQ, 0, ?_, .one _ h.2.2⟩
   intro A B A' B' c d c' d' W hA hB
   exact kBin_or 1 1 u v false false ⟨#[]⟩ ⟨#[]⟩ A B A' B' c d c' d' [] [] [] [] t W hA.1 hA.2.1 hB.1 hB.2.1 la.1 la.2.1 lb.1 lb.2.1 la.2.2.1 la.2.2.2 lb.2.2.1 lb.2.2.2 hA.2.2.1 hA.2.2.2 hB.2.2.1 hB.2.2.2 ra rb hbas (fun W g1 g2 g3 g4 => kLogic_or u v false false ⟨#[]⟩ ⟨#[]⟩ A B A' B' c d c' d' [] [] [] [] t W g1 g2 g3 g4 la.1 la.2.1 lb.1 lb.2.1 la.2.2.1 la.2.2.2 lb.2.2.1 lb.2.2.2 hA.2.2.1 hA.2.2.2 hB.2.2.1 hB.2.2.2 h.2.2)
 · refine res_err (e := 11) (by decide) ?_
   intro A B A' B' c d c' d' W hA hB
   exact kBin_or a.k b.k a.b b.b a.g b.g a.s b.s A B A' B' c d c' d' a.xs a.ys b.xs b.ys t W hA.1 hA.2.1 hB.1 hB.2.1 la.1 la.2.1 lb.1 lb.2.1 la.2.2.1 la.2.2.2 lb.2.2.1 lb.2.2.2 hA.2.2.1 hA.2.2.2 hB.2.2.1 hB.2.2.2 ra rb hbas (fun W g1 g2 g3 g4 => kLogic_type ⟨#[124, 124]⟩ a.k b.k a.b b.b a.g b.g a.s b.s A B A' B' c d c' d' a.xs a.ys b.xs b.ys t W g1 g2 g3 g4 la.1 la.2.1 lb.1 lb.2.1 la.2.2.1 la.2.2.2 lb.2.2.1 lb.2.2.2 hA.2.2.1 hA.2.2.2 hB.2.2.1 hB.2.2.2 h)
theorem rowres_k {op : ByteArray} (hx : OfR a x) (hy : OfR b y) (la : a.lim) (lb : b.lim) (ra : a.right = true) (rb : b.right = true) (hbas : basB t = true) (n1 : op ≠ ⟨#[38, 38]⟩) (n2 : op ≠ ⟨#[124, 124]⟩) (h8 : inB ops8 op = true) : ResK op a b t := by
 obtain ⟨wh, F, cp, hr⟩ := row_k h8
 by_cases ht : op.toList = [43] ∧ a.k = 2 ∧ b.k = 2 ∧ wordsB t = true
 · obtain ⟨ho, hka, hkb, hw⟩ := ht
   obtain ⟨s1, z1, rfl, rfl⟩ := hx.two_is hka
   obtain ⟨s2, z2, rfl, rfl⟩ := hy.two_is hkb
   by_cases hs : 200 < s1.size + s2.size
   · refine res_err (e := 7) (by decide) ?_
     intro A B A' B' c d c' d' W hA hB
     exact kBin_many _ wh F cp false false false false s1 s2 A B A' B' c d c' d' [] [] [] [] t W hA.1 hA.2.1 hB.1 hB.2.1 la.1 la.2.1 lb.1 lb.2.1 la.2.2.1 la.2.2.2 lb.2.2.1 lb.2.2.2 hA.2.2.1 hA.2.2.2 hB.2.2.1 hB.2.2.2 ra rb hbas n1 n2 hr.look ho hw (show s1.size ≤ 1000 by omega) (show s2.size ≤ 1000 by omega) hs
   · refine ⟨2, false, s1 ++ s2, noQ, 0, ?_, .two _ (by rw [ByteArray.size_append]; omega) hw⟩
     intro A B A' B' c d c' d' W hA hB
     exact kBin_text _ wh F cp false false false false s1 s2 A B A' B' c d c' d' [] [] [] [] t W hA.1 hA.2.1 hB.1 hB.2.1 la.1 la.2.1 lb.1 lb.2.1 la.2.2.1 la.2.2.2 lb.2.2.1 lb.2.2.2 hA.2.2.1 hA.2.2.2 hB.2.2.1 hB.2.2.2 ra rb hbas n1 n2 hr.look ho hw (show s1.size ≤ 1000 by omega) (show s2.size ≤ 1000 by omega) hs
 · by_cases hn : a.k = 3 ∧ b.k = 3 ∧ numB t = true
   · obtain ⟨hka, hkb, hnum⟩ := hn
     obtain ⟨p, hp, rfl, rfl⟩ := hx.num_is hka
     obtain ⟨q, hq, rfl, rfl⟩ := hy.num_is hkb
     by_cases hw : wh = true → wholeB t = true ∧ p.d = 1 ∧ q.d = 1
     · obtain ⟨m, e, hX⟩ := hr.does p q t hp hq hw
       obtain ⟨v, r, h1, h2, -⟩ := num_k hr n1 n2 p q t hp hq hbas hnum hw hX
       exact ⟨_, _, _, _, _, h1, h2⟩
     · cases wh
       · exact absurd (fun h => nomatch h) hw
       · have hz : ¬ (p.d = 1 ∧ q.d = 1 ∧ wholeB t = true) := fun h => hw fun _ => ⟨h.2.2, h.1, h.2.1⟩
         refine res_err (e := 11) (by decide) ?_
         rintro A B A' B' c d c' d' W ⟨h1, h2, k1, k2⟩ ⟨h3, h4, k3, k4⟩
         exact kBin_frac op F cp t p q A B A' B' c d c' d' W h1 h2 h3 h4 k1 k2 k3 k4 hp hq n1 n2 hr.look hbas hnum hz
   · refine res_err (e := 11) (by decide) ?_
     intro A B A' B' c d c' d' W hA hB
     exact kBin_type op wh F cp a.k b.k a.b b.b a.g b.g a.s b.s A B A' B' c d c' d' a.xs a.ys b.xs b.ys t W hA.1 hA.2.1 hB.1 hB.2.1 la.1 la.2.1 lb.1 lb.2.1 la.2.2.1 la.2.2.2 lb.2.2.1 lb.2.2.2 hA.2.2.1 hA.2.2.2 hB.2.2.1 hB.2.2.2 ra rb hbas n1 n2 hr.look hn ht
theorem bin_k (op : ByteArray) (a b : VD) (t : Int) (la : a.lim) (lb : b.lim) : ResK op a b t := by
 by_cases hbad : a.right = true ∧ b.right = true ∧ 0 ≤ t ∧ t ≤ 18
 · obtain ⟨ra, rb, h0, h18⟩ := hbad
   obtain ⟨x, hx⟩ := of_right la ra
   obtain ⟨y, hy⟩ := of_right lb rb
   have hbas : basB t = true := by unfold basB; simp [h0, h18]
   by_cases n1 : op = ⟨#[38, 38]⟩
   · subst n1
     exact and_k hx hy la lb ra rb hbas
   · by_cases n2 : op = ⟨#[124, 124]⟩
     · subst n2
       exact or_k hx hy la lb ra rb hbas
     · cases h : inB ops8 op
       · refine res_err (e := 1) (by decide) ?_
         intro A B A' B' c d c' d' W hA hB
         exact kBin_unk op a.k b.k a.b b.b a.g b.g a.s b.s A B A' B' c d c' d' a.xs a.ys b.xs b.ys t W hA.1 hA.2.1 hB.1 hB.2.1 la.1 la.2.1 lb.1 lb.2.1 la.2.2.1 la.2.2.2 lb.2.2.1 lb.2.2.2 hA.2.2.1 hA.2.2.2 hB.2.2.1 hB.2.2.2 ra rb hbas n1 n2 (look_no8 h)
       · exact rowres_k hx hy la lb ra rb hbas n1 n2 h
 · exact res_err (e := 1) (by decide) (bin_bad op la lb hbad)
end
end
end Go.Proofs.YtmbbdjpnecjleaaGreat
