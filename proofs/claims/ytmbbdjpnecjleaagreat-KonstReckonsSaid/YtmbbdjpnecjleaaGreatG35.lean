/-
 Parts: K24.
-/
import Derived.Test.YtmbbdjpnecjleaaGreatG27
import Derived.Test.YtmbbdjpnecjleaaGreatG31
import Derived.Test.YtmbbdjpnecjleaaGreatG33
import Derived.Test.YtmbbdjpnecjleaaGreatG34
namespace Go.Proofs.YtmbbdjpnecjleaaGreat
section
set_option maxRecDepth 100000
set_option maxHeartbeats 1000000
open Go.RowKit

def rk (e : Int) : Int := if e = 0 then 3 else 0
def rs (q : Q) (e : Int) : Bool := if e = 0 then q.s else false
def rn (q : Q) (e : Int) : ByteArray := if e = 0 then dec q.n else ⟨#[]⟩
def rd (q : Q) (e : Int) : ByteArray := if e = 0 then dec q.d else ⟨#[]⟩
theorem redL (s : Bool) (p u b : Nat) : redQ s (LN p u b) (LD p u b) = valQ (s && decide (b ≠ 0)) p u b := by
 by_cases h : b = 0
 · rw [← redQ_L (s := (s && decide (b ≠ 0))) (by intro; simp [h]), LN_zero.2 h]
   unfold redQ
   rw [if_pos rfl, if_pos rfl]
 · rw [redQ_L (fun e => absurd e h), decide_eq_true h, Bool.and_true]
theorem half_low {HI cc p : Nat} (h : ¬ HI * 2 ^ (p - 1) ≤ cc) : ¬ cc / 2 ^ (p - 1) = HI := by
 intro e
 have := Nat.div_mul_le_self cc (2 ^ (p - 1))
 rw [e] at this
 exact h this
theorem gcd_len15 {n d : Nat} (hd : 0 < d) (h : (decL d).length ≤ 340) : (decL (Nat.gcd n d)).length ≤ 340 := Nat.le_trans (decL_mono (Nat.le_of_dvd hd (Nat.gcd_dvd_right n d))) h
theorem rFloat_over {q : Q} {sz : Int} (hn : q.n < Top) (hd : q.d < Top) (hq : QR q) (hA : FlOver q sz) (W : World) : Calls Tryz.prog 75 #[.agg #[.bool q.s, .string (dec q.n), .string (dec q.d), .bool false], .int .i64 sz] W (RetRV 0 false ⟨#[]⟩ false ⟨#[]⟩ ⟨#[]⟩ 2 W) := by
 obtain ⟨p, u, t, cc, ex, hf, hC, h⟩ := hA
 by_cases ho : (t + u + 2) * 2 ^ (p - 1) ≤ cc
 · exact rFloat_high q sz _ false _ _ W hf (Nat.le_refl _) rfl rfl (fun W => refNear_over hf q.n q.d W hn hd hq.den hC rfl ho) (Nat.mul_div_cancel _ (Nat.pow_pos (by decide)))
 · have h2 := (h.resolve_left ho)
   have l1 := FN_len hf (Nat.le_of_lt (Nat.lt_of_not_le ho))
   have l2 := FD_len (b := cc) hf
   exact rFloat_low (v := valQ (q.s && decide (cc ≠ 0)) p u cc) (k0 := true) q sz cc ex _ _ W hf (Nat.le_of_lt (Nat.lt_of_not_le ho)) rfl rfl (fun W => refNear_fit hf q.n q.d W hn hd hq.den hC rfl ho) (half_low ho) rfl (Nat.ne_of_gt (FG_pos p u cc)) l1 l2 (gcd_len15 (FD_pos p u cc) l2) (redL q.s p u cc)
    (by
     show overB false (LN p u cc) (LD p u cc) = true
     unfold overB
     rcases h2.2 with h3 | h3
     · rw [decide_eq_true h3]; rfl
     · rw [decide_eq_true h3, Bool.or_true]) (fun W => rNum_bad _ W)
theorem rFloat_fit {q v : Q} {sz : Int} (hn : q.n < Top) (hd : q.d < Top) (hq : QR q) (hA : FlFit q sz v) (W : World) : Calls Tryz.prog 75 #[.agg #[.bool q.s, .string (dec q.n), .string (dec q.d), .bool false], .int .i64 sz] W (RetRV 3 false ⟨#[]⟩ v.s (dec v.n) (dec v.d) 0 W) := by
 obtain ⟨p, u, t, cc, ex, hf, hC, ho, h1, h2, rfl⟩ := hA
 have l1 := FN_len hf (Nat.le_of_lt (Nat.lt_of_not_le ho))
 have l2 := FD_len (b := cc) hf
 exact rFloat_low (v := valQ (q.s && decide (cc ≠ 0)) p u cc) (k0 := false) q sz cc ex _ _ W hf (Nat.le_of_lt (Nat.lt_of_not_le ho)) rfl rfl (fun W => refNear_fit hf q.n q.d W hn hd hq.den hC rfl ho) (half_low ho) rfl (Nat.ne_of_gt (FG_pos p u cc)) l1 l2 (gcd_len15 (FD_pos p u cc) l2) (redL q.s p u cc)
  (by
   show overB false (LN p u cc) (LD p u cc) = false
   unfold overB
   rw [decide_eq_false (by omega), decide_eq_false (by omega)]; rfl) (fun W => rNum_fit _ W)
theorem rFits_is {v : Q} {e : Int} (t : Int) (q : Q) (w : World) (h0t : 0 ≤ t) (hn : q.n < Top) (hd : q.d < Top) (hq : QR q) (hF : FitsR q t v e) :
 Calls Tryz.prog 41 #[.agg #[.int .i64 3, .bool false, .string ⟨#[]⟩, .bool q.s, .string (dec q.n), .string (dec q.d), .bool false, .int .i64 0], .int .i64 t] w (RetRV (rk e) false ⟨#[]⟩ (rs v e) (rn v e) (rd v e) e w) := by
 rcases hF with ⟨h1, rfl, rfl⟩ | ⟨h1, h2, h3, rfl, rfl⟩ | ⟨h1, h2, h3, h4, rfl, rfl⟩ | ⟨rfl, hf⟩ | ⟨rfl, hf⟩ | ⟨h1, h2, h3, h4, rfl, rfl⟩
 · exact rFits_type t _ w rfl (fun e => h1 e.symm)
 · rcases h3 with h3 | ⟨h3, h4⟩
   · exact rFits_frac q t w h1 h2 h3
   · exact rFits_not q t w h1 h2 h3 h0t h4
 · have ht : ¬ t = 12 ∧ ¬ t = 13 := by
    constructor
    · rintro rfl; cases h2
    · rintro rfl; cases h2
   exact rFits_yes v t w h1 h2 h3 h0t h4 ht.1 ht.2
 · rcases hf with ⟨hf, rfl, rfl⟩ | ⟨hf, rfl⟩
   · exact rFits_f32 q w (fun W => rFloat_over hn hd hq hf W)
   · exact rFits_f32 q w (fun W => rFloat_fit hn hd hq hf W)
 · rcases hf with ⟨hf, rfl, rfl⟩ | ⟨hf, rfl⟩
   · exact rFits_f64 q w (fun W => rFloat_over hn hd hq hf W)
   · exact rFits_f64 q w (fun W => rFloat_fit hn hd hq hf W)
 · exact rFits_free v t w h1 h2 h3 h4
theorem ans_num {q f : Q} {e : Int} {k : Bool} (h : Ans q f e k) (W : World) : Calls Tryz.prog 76 #[.agg #[.bool f.s, .string (dec f.n), .string (dec f.d), .bool k]] W (RetRV (rk e) false ⟨#[]⟩ (rs q e) (rn q e) (rd q e) e W) := by
 cases k
 · obtain ⟨rfl, rfl, -⟩ := h.fine rfl
   exact rNum_fit q W
 · obtain ⟨rfl, rfl⟩ := h.over rfl
   exact rNum_bad f W
structure OpX (op : ByteArray) (F : FuncId) (cp : Nat → Nat → Nat → Nat → Nat → Nat → Array Value) (a b : Q) (t : Int) (q : Q) (e : Int) : Prop where
 does : DoesQ F cp a b t q e
 fit : e = 0 → Fit q
 bad : e ≠ 0 → q = noQ
 reck : ∀ W, Calls Tryz.prog 42 #[.string op, .agg #[.bool a.s, .string (dec a.n), .string (dec a.d), .bool false], .agg #[.bool b.s, .string (dec b.n), .string (dec b.d), .bool false], .int .i64 t] W (RetRV (rk e) false ⟨#[]⟩ (rs q e) (rn q e) (rd q e) e W)
theorem opx_of {op : ByteArray} {F : FuncId} {cp : Nat → Nat → Nat → Nat → Nat → Nat → Array Value} {a b q f : Q} {t e : Int} {k : Bool} (h : Ans q f e k) (hD : DoesQ F cp a b t q e)
 (hR : (∀ W, Calls Tryz.prog 76 #[.agg #[.bool f.s, .string (dec f.n), .string (dec f.d), .bool k]] W (RetRV (rk e) false ⟨#[]⟩ (rs q e) (rn q e) (rd q e) e W)) → ∀ W, Calls Tryz.prog 42 #[.string op, .agg #[.bool a.s, .string (dec a.n), .string (dec a.d), .bool false], .agg #[.bool b.s, .string (dec b.n), .string (dec b.d), .bool false], .int .i64 t] W (RetRV (rk e) false ⟨#[]⟩ (rs q e) (rn q e) (rd q e) e W)) : OpX op F cp a b t q e := by
 refine ⟨hD, ?_, ?_, hR (ans_num h)⟩
 · rintro rfl
   cases k
   · obtain ⟨h1, -, h2, h3, h4⟩ := h.fine rfl
     rw [h1]
     exact ⟨h2, h3, h4⟩
   · exact absurd (h.over rfl).2 (by decide)
 · intro he
   cases k
   · exact absurd (h.fine rfl).2.1 he
   · exact (h.over rfl).1
theorem op_add (a b : Q) (t : Int) (ha : Fit a) (hb : Fit b) : ∃ q e, OpX ⟨#[43]⟩ 95 (cpG 1) a b t q e := by
 obtain ⟨q, e, hA, hov, hok⟩ := ans_add a b false ha.2.2.den hb.2.2.den
 exact ⟨q, e, opx_of hA (does_add a b t ha hb hov hok) (fun hN W => rRk_add a b t W hN (fun W => ref_add15 a b W (dec_short ha.1 (by decide)) (dec_short ha.2.1 (by decide)) (dec_short hb.1 (by decide)) (dec_short hb.2.1 (by decide)) (by simp [addQ]) rfl))⟩
theorem op_sub (a b : Q) (t : Int) (ha : Fit a) (hb : Fit b) : ∃ q e, OpX ⟨#[45]⟩ 95 (cpG 2) a b t q e := by
 obtain ⟨q, e, hA, hov, hok⟩ := ans_add a b true ha.2.2.den hb.2.2.den
 exact ⟨q, e, opx_of hA (does_sub a b t ha hb hov hok) (fun hN W => rRk_sub a b t W hN (fun W => rLess_is a b W (fun W => ref_add15 a ⟨!b.s, b.n, b.d⟩ W (dec_short ha.1 (by decide)) (dec_short ha.2.1 (by decide)) (dec_short hb.1 (by decide)) (dec_short hb.2.1 (by decide)) (by simp [addQ]) rfl)))⟩
theorem op_mul (a b : Q) (t : Int) (ha : Fit a) (hb : Fit b) : ∃ q e, OpX ⟨#[42]⟩ 95 (cpG 3) a b t q e := by
 obtain ⟨q, e, hA, hov, hok⟩ := ans_red (a.s != b.s) (a.n * b.n) (a.d * b.d) (den_ne ha.2.2.den hb.2.2.den)
 exact ⟨q, e, opx_of hA (does_mul a b t ha hb hov hok) (fun hN W => rRk_mul a b t W hN (fun W => ref_mul a b W (dec_short ha.1 (by decide)) (dec_short ha.2.1 (by decide)) (dec_short hb.1 (by decide)) (dec_short hb.2.1 (by decide)) rfl rfl))⟩
theorem op_quo (a b : Q) (t : Int) (ha : Fit a) (hb : Fit b) : ∃ q e, OpX ⟨#[47]⟩ 57 cpN a b t q e := by
 by_cases h0 : b.n = 0
 · exact ⟨noQ, 4, does_quo a b t (kQuo_nil a b t ha hb h0), fun h => absurd h (by decide), fun _ => rfl, fun W => rRk_quoz a b t W h0⟩
 · obtain ⟨q, e, f, k, hA, hP, hR, -⟩ := quo_ex a b t ha hb h0
   exact ⟨q, e, opx_of hA (does_quo a b t hP) (fun hN W => rRk_quo a b t W hN hR h0)⟩
theorem one_top : 1 < Top := by decide +kernel
theorem op_left (a b : Q) (t : Int) (ha : Fit a) (hb : Fit b) (hw : wholeB t = true) (hda : a.d = 1) (hdb : b.d = 1) : ∃ q e, OpX ⟨#[37]⟩ 58 cpN a b t q e := by
 by_cases h0 : b.n = 0
 · exact ⟨noQ, 4, does_left_bad a b t (kQuo_nil a b t ha hb h0) (by decide), fun h => absurd h (by decide), fun _ => rfl, fun W => rRk_leftz a b t W h0⟩
 · obtain ⟨q, e, f, k, hA, hP, hR, hX⟩ := quo_ex a b t ha hb h0
   obtain ⟨rfl, hf⟩ := hX hw hda hdb
   obtain ⟨rfl, rfl, hq⟩ := hA.fine rfl
   have hqn : q.n = a.n / b.n := by rw [hf]
   have hqd : q.d = 1 := by rw [hf]
   obtain ⟨p, e1, hA1, hov1, hok1⟩ := ans_red (q.s != b.s) (q.n * b.n) (q.d * b.d) (den_ne hq.2.2.den hb.2.2.den)
   have t1 : q.n * b.n < Top := lt_top (by rw [hqn]; exact Nat.div_mul_le_self _ _) ha.1
   have t2 : q.d * b.d < Top := by rw [hqd, hdb]; exact one_top
   obtain ⟨hp, rfl⟩ := hok1 t1 t2
   have hk1 : overB false (q.n * b.n) (q.d * b.d) = false := by unfold overB; rw [decide_eq_false (by omega), decide_eq_false (by omega)]; rfl
   have hpf := hA1.fine hk1
   have hpF : Fit p := by rw [hpf.1]; exact hpf.2.2
   obtain ⟨r, e2, hA2, hov2, hok2⟩ := ans_add a p true ha.2.2.den hpF.2.2.den
   refine ⟨r, e2, opx_of hA2 (does_left_fit (q := q) (p := p) a b t hP ?_ ?_) (fun hN W => rRk_left (q := q) (p := p) a b t W hN hR (fun W => ?_) (fun W => rLess_is a p W (fun W => ref_add15 a ⟨!p.s, p.n, p.d⟩ W (dec_short ha.1 (by decide)) (dec_short ha.2.1 (by decide)) (dec_short hpF.1 (by decide)) (dec_short hpF.2.1 (by decide)) (by simp [addQ]) rfl)) h0)⟩
   · intro W A B A' B' c d c' d' h1 h2 h3 h4 k1 k2 k3 k4
     exact mul_walk A B A' B' c d c' d' q b W h1 h2 h3 h4 k1 k2 k3 k4 hq.1 hq.2.1 hb.1 hb.2.1 hq.2.2 hb.2.2 hov1 hok1
   · intro W A B A' B' c d c' d' h1 h2 h3 h4 k1 k2 k3 k4
     exact sub_of _ _ _ _ _ _ _ _ _ _ _ _ _ _ W (fun w1 hb1 => add_walk true A B A' B' c d c' d' a p w1 (h1.below hb1) (h2.below hb1) (h3.below hb1) (h4.below hb1) k1 k2 k3 k4 ha.1 ha.2.1 hpF.1 hpF.2.1 ha.2.2 hpF.2.2 hov2 hok2)
   · have := ref_mul q b W (dec_short hq.1 (by decide)) (dec_short hq.2.1 (by decide)) (dec_short hb.1 (by decide)) (dec_short hb.2.1 (by decide)) hp hk1
     exact this
theorem Top_pow : ∃ n, Top = 2 ^ n := ⟨32 * 16, by unfold Top; rw [show B32 = 2 ^ 32 from rfl, ← Nat.pow_mul]⟩
theorem bop_top (k : Nat) {x y : Nat} (h : x < Top) (h' : y < Top) : bop k x y < Top := by
 obtain ⟨n, hn⟩ := Top_pow
 rw [hn] at h h' ⊢
 exact bop_lt k h h'
theorem fit_whole {x : Nat} (h : x < Top) : Fit ⟨false, x, 1⟩ := ⟨h, one_top, Nat.one_ne_zero, fun _ => rfl, Nat.gcd_one_right x⟩
theorem reck_bit (m : Nat) (a b : Q) (t : Int) (ha : Fit a) (hb : Fit b) (hm : m < 3) (hs : a.s = false) (hs' : b.s = false) (W : World) : Calls Tryz.prog 42 #[.string (opB m), .agg #[.bool a.s, .string (dec a.n), .string (dec a.d), .bool false], .agg #[.bool b.s, .string (dec b.n), .string (dec b.d), .bool false], .int .i64 t] W (RetRV 3 false ⟨#[]⟩ false (dec (bop m a.n b.n)) (dec 1) 0 W) := by
 rw [hs, hs', dec_one15]
 exact rRk_bit m a b t W hm ha.1 hb.1
theorem reck_neg (m : Nat) (a b : Q) (t : Int) (hm : m < 3) (hs : a.s = true ∨ b.s = true) (W : World) : Calls Tryz.prog 42 #[.string (opB m), .agg #[.bool a.s, .string (dec a.n), .string (dec a.d), .bool false], .agg #[.bool b.s, .string (dec b.n), .string (dec b.d), .bool false], .int .i64 t] W (RetRV 0 false ⟨#[]⟩ false ⟨#[]⟩ ⟨#[]⟩ 2 W) := by
 cases ea : a.s
 · rw [hs.resolve_left (by rw [ea]; decide)]
   exact rRk_negb m a b t W hm
 · exact rRk_nega m a b t W hm
theorem op_bit0 (a b : Q) (t : Int) (ha : Fit a) (hb : Fit b) : ∃ q e, OpX (opB 0) 103 (cpG 4) a b t q e := by
 by_cases hs : a.s = false ∧ b.s = false
 · exact ⟨⟨false, bop 0 a.n b.n, 1⟩, 0, does_bit1 a b t ha hb hs.1 hs.2 (red_one _), fun _ => fit_whole (bop_top _ ha.1 hb.1), fun h => absurd rfl h, fun W => reck_bit 0 a b t ha hb (by decide) hs.1 hs.2 W⟩
 · have hn : a.s = true ∨ b.s = true := by
    cases ha2 : a.s
    · cases hb2 : b.s
      · exact absurd ⟨ha2, hb2⟩ hs
      · exact .inr rfl
    · exact .inl rfl
   exact ⟨noQ, 2, does_neg1 a b t hn, fun h => absurd h (by decide), fun _ => rfl, fun W => reck_neg 0 a b t (by decide) hn W⟩
theorem op_bit1 (a b : Q) (t : Int) (ha : Fit a) (hb : Fit b) : ∃ q e, OpX (opB 1) 103 (cpG 5) a b t q e := by
 by_cases hs : a.s = false ∧ b.s = false
 · exact ⟨⟨false, bop 1 a.n b.n, 1⟩, 0, does_bit2 a b t ha hb hs.1 hs.2 (red_one _), fun _ => fit_whole (bop_top _ ha.1 hb.1), fun h => absurd rfl h, fun W => reck_bit 1 a b t ha hb (by decide) hs.1 hs.2 W⟩
 · have hn : a.s = true ∨ b.s = true := by
    cases ha2 : a.s
    · cases hb2 : b.s
      · exact absurd ⟨ha2, hb2⟩ hs
      · exact .inr rfl
    · exact .inl rfl
   exact ⟨noQ, 2, does_neg2 a b t hn, fun h => absurd h (by decide), fun _ => rfl, fun W => reck_neg 1 a b t (by decide) hn W⟩
theorem op_bit2 (a b : Q) (t : Int) (ha : Fit a) (hb : Fit b) : ∃ q e, OpX (opB 2) 103 (cpG 6) a b t q e := by
 by_cases hs : a.s = false ∧ b.s = false
 · exact ⟨⟨false, bop 2 a.n b.n, 1⟩, 0, does_bit3 a b t ha hb hs.1 hs.2 (red_one _), fun _ => fit_whole (bop_top _ ha.1 hb.1), fun h => absurd rfl h, fun W => reck_bit 2 a b t ha hb (by decide) hs.1 hs.2 W⟩
 · have hn : a.s = true ∨ b.s = true := by
    cases ha2 : a.s
    · cases hb2 : b.s
      · exact absurd ⟨ha2, hb2⟩ hs
      · exact .inr rfl
    · exact .inl rfl
   exact ⟨noQ, 2, does_neg3 a b t hn, fun h => absurd h (by decide), fun _ => rfl, fun W => reck_neg 2 a b t (by decide) hn W⟩
end
end Go.Proofs.YtmbbdjpnecjleaaGreat
