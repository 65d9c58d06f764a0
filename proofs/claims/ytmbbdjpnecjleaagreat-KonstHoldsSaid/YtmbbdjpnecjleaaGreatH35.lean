/-
 Parts: K37 K38.
-/
import Derived.Test.YtmbbdjpnecjleaaGreatH31
import Derived.Test.YtmbbdjpnecjleaaGreatH34
namespace Go.Proofs.YtmbbdjpnecjleaaGreat
section
set_option maxRecDepth 100000
set_option maxHeartbeats 1000000
open Go.RowKit

theorem kind_of (t : Int) : (truthB t = true ∧ kindI t = 1) ∨ (truthB t = false ∧ wordsB t = true ∧ kindI t = 2) ∨ (truthB t = false ∧ wordsB t = false ∧ kindI t = 3) := by
 unfold kindI
 cases h1 : truthB t
 · cases h2 : wordsB t
   · exact .inr (.inr ⟨rfl, rfl, rfl⟩)
   · exact .inr (.inl ⟨rfl, rfl, rfl⟩)
 · exact .inl ⟨rfl, rfl⟩
theorem truth_facts {t : Int} (h : truthB t = true) : basB t = true ∧ wholeB t = false ∧ ¬ t = 12 ∧ ¬ t = 13 ∧ kindI t = 1 := by
 have hk : kindI t = 1 := by unfold kindI; rw [if_pos h]
 refine ⟨?_, ?_, ?_, ?_, hk⟩ <;> (unfold truthB at h; simp only [Bool.or_eq_true, decide_eq_true_eq] at h; rcases h with rfl | rfl <;> decide)
theorem words_facts {t : Int} (h : wordsB t = true) : basB t = true ∧ wholeB t = false ∧ ¬ t = 12 ∧ ¬ t = 13 ∧ kindI t = 2 := by
 unfold wordsB at h
 simp only [Bool.or_eq_true, decide_eq_true_eq] at h
 rcases h with rfl | rfl <;> decide
def KFitsP (a : VD) (t : Int) (k : Int) (b : Bool) (s : ByteArray) (q : Q) (e : Int) : Prop := ∀ A B c d W, a.rd W A B c d → Calls Tryz.prog 13 #[a.at A B c d, .int .i64 t] W (RetV k b s q e W)
def KUnP (op : ByteArray) (a : VD) (t : Int) (k : Int) (b : Bool) (s : ByteArray) (q : Q) (e : Int) : Prop := ∀ A B c d W, a.rd W A B c d → Calls Tryz.prog 14 #[.string op, a.at A B c d, .int .i64 t] W (RetV k b s q e W)
def KShP (op : ByteArray) (a b : VD) (t : Int) (k : Int) (bb : Bool) (s : ByteArray) (q : Q) (e : Int) : Prop := ∀ A B A' B' c d c' d' W, a.rd W A B c d → b.rd W A' B' c' d' → Calls Tryz.prog 15 #[.string op, a.at A B c d, b.at A' B' c' d', .int .i64 t] W (RetV k bb s q e W)
theorem fits_num {q v : Q} {t r : Int} (hq : Fit q) (hb : basB t = true) (hF : FitsR q t v r) : KFitsP (numV q) t (rk r) false ⟨#[]⟩ v r := by
 rintro A B c d W ⟨h1, h2, k1, k2⟩
 exact kFitsV_of 3 false q.s ⟨#[]⟩ A B c d (limbs q.n) (limbs q.d) t W h1 h2 (limbs_lim _) (limbs_lim _) (len18 hq.1) (len18 hq.2.1) k1 k2 (rightV_num hq.1 hq.2.1 hq.2.2) hb (fun W g1 g2 => kFits_is t q A B c d W g1 g2 k1 k2 hq.1 hq.2.1 hq.2.2 hF rfl)
theorem lim_nil : Lim ([] : List Nat) := by intro x h; cases h
theorem top_zero : (0 : Nat) < Top := small_top (by decide)
theorem fits_flat (k : Int) (b : Bool) (s : ByteArray) (t : Int) (hr : rightV k b s false [] [] = true) (hk : k = 1 ∨ k = 2) (hb : basB t = true) : (kindI t = k → wholeB t = false → ¬ t = 12 → ¬ t = 13 → KFitsP ⟨k, b, s, false, [], []⟩ t k b s noQ 0) ∧ (¬ k = kindI t → KFitsP ⟨k, b, s, false, [], []⟩ t 0 false ⟨#[]⟩ noQ 11) := by
 constructor
 · intro h1 h2 h3 h4 A B c d W hA
   refine kFitsV_of k b false s A B c d [] [] t W hA.1 hA.2.1 lim_nil lim_nil (Nat.zero_le _) (Nat.zero_le _) hA.2.2.1 hA.2.2.2 hr hb (fun W g1 g2 => ?_)
   rcases hk with rfl | rfl
   · exact kFits_1 b s A B c d t W h1 h2 h3 h4
   · exact kFits_2 b s A B c d t W h1 h2 h3 h4
 · intro h1 A B c d W hA
   exact kFitsV_of k b false s A B c d [] [] t W hA.1 hA.2.1 lim_nil lim_nil (Nat.zero_le _) (Nat.zero_le _) hA.2.2.1 hA.2.2.2 hr hb (fun W g1 g2 => kFits_type k b s _ t noQ A B c d W g1 g2 (Nat.zero_le _) (Nat.zero_le _) top_zero top_zero rfl h1)
theorem right_two {s : ByteArray} (h : s.size ≤ 200) : rightV 2 false s false [] [] = true := by
 unfold rightV
 rw [if_neg (by decide), if_pos rfl]
 simp [noneB, h]
theorem right_one (b : Bool) : rightV 1 b ⟨#[]⟩ false [] [] = true := rfl
theorem refit {t : Int} {k : Int} {b : Bool} {s : ByteArray} {q : Q} (h : HOK t k b s q 0) : VD.right ⟨k, b, s, q.s, limbs q.n, limbs q.d⟩ = true ∧ KFitsP ⟨k, b, s, q.s, limbs q.n, limbs q.d⟩ t k b s q 0 := by
 cases h with
 | err _ h => exact absurd rfl h
 | one b h =>
  obtain ⟨h1, h2, h3, h4, h5⟩ := truth_facts h
  exact ⟨right_one b, (fits_flat 1 b ⟨#[]⟩ t (right_one b) (.inl rfl) h1).1 h5 h2 h3 h4⟩
 | two s h hw =>
  obtain ⟨h1, h2, h3, h4, h5⟩ := words_facts hw
  exact ⟨right_two h, (fits_flat 2 false s t (right_two h) (.inr rfl) h1).1 h5 h2 h3 h4⟩
 | num q h hf hb => exact ⟨rightV_num h.1 h.2.1 h.2.2, fits_num h hb hf⟩
def ResF (a : VD) (t : Int) : Prop := ∃ k b s q e, KFitsP a t k b s q e ∧ HOK t k b s q e
theorem res_f (a : VD) (t : Int) (la : a.lim) : ResF a t := by
 cases ra : a.right
 · refine ⟨0, false, ⟨#[]⟩, noQ, 1, ?_, .err 1 (by decide)⟩
   rintro A B c d W ⟨h1, h2, k1, k2⟩
   exact kFitsV_a a.k a.b a.g a.s A B c d a.xs a.ys t W h1 h2 la.1 la.2.1 la.2.2.1 la.2.2.2 k1 k2 ra
 · cases hb : basB t
   · refine ⟨0, false, ⟨#[]⟩, noQ, 1, ?_, .err 1 (by decide)⟩
     rintro A B c d W ⟨h1, h2, k1, k2⟩
     exact kFitsV_t a.k a.b a.g a.s A B c d a.xs a.ys t W h1 h2 la.1 la.2.1 la.2.2.1 la.2.2.2 k1 k2 ra hb
   · obtain ⟨x, hx⟩ := of_right la ra
     cases hx with
     | num q h =>
      obtain ⟨v, r, -, hF, hH⟩ := fit_ex q t h hb
      exact ⟨_, _, _, _, _, fits_num h hb hF, hH⟩
     | one b =>
      have hf := fits_flat 1 b ⟨#[]⟩ t (right_one b) (.inl rfl) hb
      rcases kind_of t with ⟨h1, h2⟩ | ⟨h1, -, h2⟩ | ⟨h1, -, h2⟩
      · obtain ⟨-, f2, f3, f4, f5⟩ := truth_facts h1
        exact ⟨_, _, _, _, _, hf.1 f5 f2 f3 f4, .one b h1⟩
      · exact ⟨_, _, _, _, _, hf.2 (by rw [h2]; decide), .err 11 (by decide)⟩
      · exact ⟨_, _, _, _, _, hf.2 (by rw [h2]; decide), .err 11 (by decide)⟩
     | two s h =>
      have hf := fits_flat 2 false s t (right_two h) (.inr rfl) hb
      rcases kind_of t with ⟨-, h2⟩ | ⟨-, h1, h2⟩ | ⟨-, -, h2⟩
      · exact ⟨_, _, _, _, _, hf.2 (by rw [h2]; decide), .err 11 (by decide)⟩
      · obtain ⟨-, f2, f3, f4, f5⟩ := words_facts h1
        exact ⟨_, _, _, _, _, hf.1 f5 f2 f3 f4, .two s h h1⟩
      · exact ⟨_, _, _, _, _, hf.2 (by rw [h2]; decide), .err 11 (by decide)⟩
theorem subK (a b : Q) (ha : Fit a) (hb : Fit b) : ∃ q e, (e = 0 → Fit q) ∧ (e ≠ 0 → q = noQ) ∧ (a.n * b.d < Top → b.n * a.d < Top → a.d * b.d < Top → a.n * b.d + b.n * a.d < Top → e = 0) ∧ ∀ W A B A' B' c d c' d', RdL W A (limbs a.n) → RdL W B (limbs a.d) → RdL W A' (limbs b.n) → RdL W B' (limbs b.d) → (limbs a.n).length ≤ c → (limbs a.d).length ≤ d → (limbs b.n).length ≤ c' → (limbs b.d).length ≤ d' → Calls Tryz.prog 55 #[.agg #[.bool a.s, .slice A (limbs a.n).length c, .slice B (limbs a.d).length d], .agg #[.bool b.s, .slice A' (limbs b.n).length c', .slice B' (limbs b.d).length d']] W (RetQE q e W) := by
 obtain ⟨r, e2, hA2, hov2, hok2⟩ := ans_add a b true ha.2.2.den hb.2.2.den
 refine ⟨r, e2, (ans_fit hA2).1, (ans_fit hA2).2, fun g1 g2 g3 g4 => (hok2 g1 g2 g3 g4).2, ?_⟩
 intro W A B A' B' c d c' d' h1 h2 h3 h4 k1 k2 k3 k4
 exact sub_of _ _ _ _ _ _ _ _ _ _ _ _ _ _ W (fun w1 hb1 => add_walk true A B A' B' c d c' d' a b w1 (h1.below hb1) (h2.below hb1) (h3.below hb1) (h4.below hb1) k1 k2 k3 k4 ha.1 ha.2.1 hb.1 hb.2.1 ha.2.2 hb.2.2 hov2 hok2)
theorem fit_one : Fit ⟨false, 2 ^ 0, 1⟩ := ⟨small_top (by decide), small_top (by decide), by decide, by decide, by decide⟩
theorem fit_mone : Fit ⟨true, 2 ^ 0, 1⟩ := ⟨small_top (by decide), small_top (by decide), by decide, by decide, by decide⟩
theorem not_ex (q : Q) (t : Int) (hq : Fit q) : ∃ m e, (e = 0 → Fit m) ∧ (e ≠ 0 → m = noQ) ∧ ∀ A B c d W, RdL W A (limbs q.n) → RdL W B (limbs q.d) → (limbs q.n).length ≤ c → (limbs q.d).length ≤ d → Calls Tryz.prog 47 #[.agg #[.bool q.s, .slice A (limbs q.n).length c, .slice B (limbs q.d).length d], .int .i64 t] W (RetQE m e W) := by
 cases hu : unsB t
 · obtain ⟨m, e, h1, h2, -, hS⟩ := subK ⟨true, 2 ^ 0, 1⟩ q fit_mone hq
   refine ⟨m, e, h1, h2, ?_⟩
   intro A B c d W g1 g2 k1 k2
   exact kNot_s t q A B c d W g1 g2 k1 k2 hq.1 hq.2.1 hu hS
 · have h64 := bitsN_le t
   have hX : Fit ⟨false, 2 ^ bitsN t, 1⟩ := fit_whole (pow_small h64)
   obtain ⟨p, e1, p1, p2, p3, hS1⟩ := subK ⟨false, 2 ^ bitsN t, 1⟩ ⟨false, 2 ^ 0, 1⟩ hX fit_one
   have hp0 : e1 = 0 := by
    have g1 : 2 ^ bitsN t ≤ 2 ^ 64 := Nat.pow_le_pow_right (by decide) h64
    have g2 : 2 ^ 64 + 1 < Top := by decide +kernel
    exact p3 (by show 2 ^ bitsN t * 1 < Top; omega) (by show 2 ^ 0 * 1 < Top; omega) one_top (by show 2 ^ bitsN t * 1 + 2 ^ 0 * 1 < Top; omega)
   obtain ⟨m, e, h1, h2, -, hS⟩ := subK p q (p1 hp0) hq
   refine ⟨m, e, h1, h2, ?_⟩
   intro A B c d W g1 g2 k1 k2
   exact kNot_u t (bitsN t) q A B c d W g1 g2 k1 k2 hq.1 hq.2.1 hu rfl h64 hS1 hS
def ResU (op : ByteArray) (a : VD) (t : Int) : Prop := ∃ k b s q e, KUnP op a t k b s q e ∧ HOK t k b s q e
theorem resu_err {op : ByteArray} {a : VD} {t e : Int} (he : e ≠ 0) (h1 : KUnP op a t 0 false ⟨#[]⟩ noQ e) : ResU op a t := ⟨_, _, _, _, _, h1, .err e he⟩
theorem res_u (op : ByteArray) (a : VD) (t : Int) (la : a.lim) : ResU op a t := by
 cases ra : a.right
 · refine resu_err (e := 1) (by decide) ?_
   rintro A B c d W ⟨h1, h2, k1, k2⟩
   exact kUn_bada op a.k a.b a.g a.s A B c d a.xs a.ys t W h1 h2 la.1 la.2.1 la.2.2.1 la.2.2.2 k1 k2 ra
 cases hb : basB t
 · refine resu_err (e := 1) (by decide) ?_
   rintro A B c d W ⟨h1, h2, k1, k2⟩
   exact kUn_badt op a.k a.b a.g a.s A B c d a.xs a.ys t W h1 h2 la.1 la.2.1 la.2.2.1 la.2.2.2 k1 k2 ra hb
 cases hco : Lib.containsS opsU op
 · refine resu_err (e := 1) (by decide) ?_
   rintro A B c d W ⟨h1, h2, k1, k2⟩
   exact kUn_bado op a.k a.b a.g a.s A B c d a.xs a.ys t W h1 h2 la.1 la.2.1 la.2.2.1 la.2.2.2 k1 k2 ra hb hco
 obtain ⟨x, hx⟩ := of_right la ra
 by_cases n1 : op = ⟨#[33]⟩
 · subst n1
   by_cases h : a.k = 1 ∧ truthB t = true
   · obtain ⟨u, rfl, rfl⟩ := hx.one_is h.1
     refine ⟨_, _, _, _, _, ?_, .one (!u) h.2⟩
     rintro A B c d W ⟨h1, h2, k1, k2⟩
     exact kUn_n u false ⟨#[]⟩ A B c d [] [] t W h1 h2 la.1 la.2.1 la.2.2.1 la.2.2.2 k1 k2 ra hb h.2
   · refine resu_err (e := 11) (by decide) ?_
     rintro A B c d W ⟨h1, h2, k1, k2⟩
     exact kUn_nt a.k a.b a.g a.s A B c d a.xs a.ys t W h1 h2 la.1 la.2.1 la.2.2.1 la.2.2.2 k1 k2 ra hb h
 by_cases hn : a.k = 3 ∧ numB t = true
 · obtain ⟨hka, hnum⟩ := hn
   obtain ⟨q, hq, rfl, rfl⟩ := hx.num_is hka
   have hmem := (Lib.containsS_iff opsU op).1 hco
   have h3 : op = ⟨#[43]⟩ ∨ op = ⟨#[45]⟩ ∨ op = ⟨#[94]⟩ := by
    unfold opsU at hmem
    simp only [List.mem_cons, List.not_mem_nil, or_false] at hmem
    exact hmem.resolve_left n1
   rcases h3 with rfl | rfl | rfl
   · obtain ⟨v, r, hF, -, hH⟩ := fit_ex q t hq hb
     refine ⟨_, _, _, _, _, ?_, hH⟩
     rintro A B c d W ⟨h1, h2, k1, k2⟩
     exact kUn_plus t q A B c d W h1 h2 k1 k2 hq.1 hq.2.1 hq.2.2 hb hnum hF
   · by_cases h0 : q.n = 0
     · obtain ⟨v, r, hF, -, hH⟩ := fit_ex q t hq hb
       refine ⟨_, _, _, _, _, ?_, hH⟩
       rintro A B c d W ⟨h1, h2, k1, k2⟩
       exact kUn_minus (m := q) t q A B c d W h1 h2 k1 k2 hq.1 hq.2.1 hq.2.2 hb hnum (fun W g1 g2 => kMinus_zero q A B c d W g1 g2 k1 k2 hq.1 hq.2.1 h0) hF
     · have hm : Fit ⟨!q.s, q.n, q.d⟩ := ⟨hq.1, hq.2.1, hq.2.2.den, fun e => absurd e h0, hq.2.2.co⟩
       obtain ⟨v, r, hF, -, hH⟩ := fit_ex ⟨!q.s, q.n, q.d⟩ t hm hb
       refine ⟨_, _, _, _, _, ?_, hH⟩
       rintro A B c d W ⟨h1, h2, k1, k2⟩
       exact kUn_minus (m := ⟨!q.s, q.n, q.d⟩) t q A B c d W h1 h2 k1 k2 hq.1 hq.2.1 hq.2.2 hb hnum (fun W g1 g2 => kMinus_pos q A B c d W g1 g2 k1 k2 hq.1 hq.2.1 h0) hF
   · by_cases hw : q.d = 1 ∧ wholeB t = true
     · obtain ⟨m, e, m1, m2, hM⟩ := not_ex q t hq
       by_cases he : e = 0
       · subst he
         obtain ⟨v, r, hF, -, hH⟩ := fit_ex m t (m1 rfl) hb
         refine ⟨_, _, _, _, _, ?_, hH⟩
         rintro A B c d W ⟨h1, h2, k1, k2⟩
         exact kUn_hat (m := m) (e := 0) t q A B c d W h1 h2 k1 k2 hq.1 hq.2.1 hq.2.2 hb hnum hw.2 hw.1 (fun W g1 g2 => hM A B c d W g1 g2 k1 k2) (fun _ => hF) (fun h => absurd rfl h)
       · refine resu_err (e := e) he ?_
         rintro A B c d W ⟨h1, h2, k1, k2⟩
         exact kUn_hat (m := m) (e := e) t q A B c d W h1 h2 k1 k2 hq.1 hq.2.1 hq.2.2 hb hnum hw.2 hw.1 (fun W g1 g2 => hM A B c d W g1 g2 k1 k2) (fun h => absurd h he) (fun _ => ⟨rfl, rfl, rfl⟩)
     · refine resu_err (e := 11) (by decide) ?_
       rintro A B c d W ⟨h1, h2, k1, k2⟩
       exact kUn_frac t q A B c d W h1 h2 k1 k2 hq.1 hq.2.1 hq.2.2 hb hnum hw
 · refine resu_err (e := 11) (by decide) ?_
   rintro A B c d W ⟨h1, h2, k1, k2⟩
   exact kUn_type op a.k a.b a.g a.s A B c d a.xs a.ys t W h1 h2 la.1 la.2.1 la.2.2.1 la.2.2.2 k1 k2 ra hb n1 hco hn
theorem shifted_ex (op : ByteArray) (hop : op = ⟨#[60, 60]⟩ ∨ op = ⟨#[62, 62]⟩) (q : Q) (m : Nat) (hq : Fit q) (hm : m ≤ 512) : ∃ z e, (e = 0 → Fit z) ∧ (e ≠ 0 → z = noQ) ∧ ∀ A B c d W, RdL W A (limbs q.n) → RdL W B (limbs q.d) → (limbs q.n).length ≤ c → (limbs q.d).length ≤ d → Calls Tryz.prog 48 #[.string op, .agg #[.bool q.s, .slice A (limbs q.n).length c, .slice B (limbs q.d).length d], .int .i64 (m : Int)] W (RetQE z e W) := by
 rcases hop with rfl | rfl
 · by_cases ho : q.n * 2 ^ m < Top
   · refine ⟨redQ q.s (q.n * 2 ^ m) 1, 0, fun _ => redQ_fit ho one_top (by decide) rfl, fun h => absurd rfl h, ?_⟩
     intro A B c d W g1 g2 k1 k2
     exact kSh_up m q A B c d W g1 g2 k1 k2 hq.1 hq.2.1 ho rfl
   · refine ⟨noQ, 2, fun h => absurd h (by decide), fun _ => rfl, ?_⟩
     intro A B c d W g1 g2 k1 k2
     exact kSh_over m q A B c d W g1 g2 k1 k2 hq.1 hq.2.1 ho
 · have hz : Fit (redQ q.s (q.n / 2 ^ m) 1) := redQ_fit (lt_top (Nat.div_le_self _ _) hq.1) one_top (by decide) rfl
   by_cases hk : q.n / 2 ^ m * 2 ^ m = q.n ∨ q.s = false
   · refine ⟨_, 0, fun _ => hz, fun h => absurd rfl h, ?_⟩
     intro A B c d W g1 g2 k1 k2
     exact kSh_keep m q A B c d W g1 g2 k1 k2 hq.1 hq.2.1 (by omega) rfl hk
   · obtain ⟨r, e, r1, r2, -, hS⟩ := subK _ ⟨false, 2 ^ 0, 1⟩ hz fit_one
     refine ⟨r, e, r1, r2, ?_⟩
     intro A B c d W g1 g2 k1 k2
     exact kSh_less m q A B c d W g1 g2 k1 k2 hq.1 hq.2.1 (by omega) rfl ⟨fun h => hk (.inl h), by cases hs : q.s; exact absurd (.inr hs) hk; rfl⟩ hS
def ResS (op : ByteArray) (a b : VD) (t : Int) : Prop := ∃ k bb s q e, KShP op a b t k bb s q e ∧ HOK t k bb s q e
theorem ress_err {op : ByteArray} {a b : VD} {t e : Int} (he : e ≠ 0) (h1 : KShP op a b t 0 false ⟨#[]⟩ noQ e) : ResS op a b t := ⟨_, _, _, _, _, h1, .err e he⟩
theorem whole_of {a : VD} {x : XD} (hx : OfR a x) : ∃ i, (i = true → ∃ q, Fit q ∧ q.d = 1 ∧ a = numV q) ∧ ∀ A B c d W, RdL W A a.xs → RdL W B a.ys → a.xs.length ≤ c → a.ys.length ≤ d → Calls Tryz.prog 27 #[a.at A B c d] W (RetBB i W) := by
 cases hx with
 | num q h => exact ⟨decide (q.d = 1), fun e => ⟨q, h, of_decide_eq_true e, rfl⟩, fun A B c d W g1 g2 k1 k2 => kIsW_num q A B c d W g1 g2 k1 k2 h.1 h.2.1⟩
 | one b => exact ⟨false, (fun e => nomatch e), fun A B c d W g1 g2 k1 k2 => kIsW_not 1 b ⟨#[]⟩ rfl (by decide) noQ A B c d W g1 g2 (Nat.zero_le _) (Nat.zero_le _) top_zero top_zero⟩
 | two s h => exact ⟨false, (fun e => nomatch e), fun A B c d W g1 g2 k1 k2 => kIsW_not 2 false s rfl (by decide) noQ A B c d W g1 g2 (Nat.zero_le _) (Nat.zero_le _) top_zero top_zero⟩
theorem res_s (op : ByteArray) (a b : VD) (t : Int) (la : a.lim) (lb : b.lim) : ResS op a b t := by
 by_cases hx : a.right = true ∧ b.right = true ∧ basB t = true ∧ (op = ⟨#[60, 60]⟩ ∨ op = ⟨#[62, 62]⟩)
 · obtain ⟨ra, rb, hb, hop⟩ := hx
   obtain ⟨x, hxa⟩ := of_right la ra
   obtain ⟨y, hxb⟩ := of_right lb rb
   obtain ⟨ia, ia1, hIa⟩ := whole_of hxa
   obtain ⟨ib, ib1, hIb⟩ := whole_of hxb
   by_cases hz : wholeB t = true ∧ ia = true ∧ ib = true
   · obtain ⟨hw, ha1, hb1⟩ := hz
     obtain ⟨p, hp, hpd, rfl⟩ := ia1 ha1
     obtain ⟨q, hq, hqd, rfl⟩ := ib1 hb1
     by_cases ho : q.s = true ∨ 512 < q.n
     · refine ress_err (e := 2) (by decide) ?_
       rintro A B A' B' c d c' d' W ⟨h1, h2, k1, k2⟩ ⟨h3, h4, k3, k4⟩
       exact kShf_over op t p q A B A' B' c d c' d' W h1 h2 h3 h4 k1 k2 k3 k4 hp hq hb hop hw hpd hqd ho
     · have hs : q.s = false := by cases h : q.s; rfl; exact absurd (.inl h) ho
       have hn : q.n ≤ 512 := by omega
       obtain ⟨m, e, m1, m2, hS⟩ := shifted_ex op hop p q.n hp hn
       have main : ∀ {kk r : Int} {v : Q}, (e = 0 → ∀ W A B c d, RdL W A (limbs m.n) → RdL W B (limbs m.d) → (limbs m.n).length ≤ c → (limbs m.d).length ≤ d → Calls Tryz.prog 29 #[.agg #[.int .i64 3, .bool false, .string ⟨#[]⟩, .bool m.s, .slice A (limbs m.n).length c, .slice B (limbs m.d).length d], .int .i64 t] W (RetV kk false ⟨#[]⟩ v r W)) → (e ≠ 0 → v = noQ ∧ r = e ∧ kk = 0) → KShP op (numV p) (numV q) t kk false ⟨#[]⟩ v r := by
        rintro kk r v hF hE A B A' B' c d c' d' W ⟨h1, h2, k1, k2⟩ ⟨h3, h4, k3, k4⟩
        by_cases h0 : q.n = 0
        · exact kShf_zero op t p q A B A' B' c d c' d' W h1 h2 h3 h4 k1 k2 k3 k4 hp hq hb hop hw hpd hqd hs h0 (fun W g1 g2 => hS A B c d W g1 g2 k1 k2) hF hE
        · exact kShf_pos op t p q A B A' B' c d c' d' W h1 h2 h3 h4 k1 k2 k3 k4 hp hq hb hop hw hpd hqd hs ⟨h0, hn⟩ (fun W g1 g2 => hS A B c d W g1 g2 k1 k2) hF hE
       by_cases he : e = 0
       · obtain ⟨v, r, hF, -, hH⟩ := fit_ex m t (m1 he) hb
         exact ⟨_, _, _, _, _, main (fun _ => hF) (fun h => absurd he h), hH⟩
       · exact ress_err (e := e) he (main (fun h => absurd h he) (fun _ => ⟨rfl, rfl, rfl⟩))
   · refine ress_err (e := 11) (by decide) ?_
     intro A B A' B' c d c' d' W hA hB
     exact kShf_type op a.k b.k a.b b.b a.g b.g a.s b.s A B A' B' c d c' d' a.xs a.ys b.xs b.ys t W hA.1 hA.2.1 hB.1 hB.2.1 la.1 la.2.1 lb.1 lb.2.1 la.2.2.1 la.2.2.2 lb.2.2.1 lb.2.2.2 hA.2.2.1 hA.2.2.2 hB.2.2.1 hB.2.2.2 ra rb hb hop (fun W g1 g2 => hIa A B c d W g1 g2 hA.2.2.1 hA.2.2.2) (fun W g1 g2 => hIb A' B' c' d' W g1 g2 hB.2.2.1 hB.2.2.2) hz
 · refine ress_err (e := 1) (by decide) ?_
   intro A B A' B' c d c' d' W hA hB
   exact kShf_bad op a.k b.k a.b b.b a.g b.g a.s b.s A B A' B' c d c' d' a.xs a.ys b.xs b.ys t W hA.1 hA.2.1 hB.1 hB.2.1 la.1 la.2.1 lb.1 lb.2.1 la.2.2.1 la.2.2.2 lb.2.2.1 lb.2.2.2 hA.2.2.1 hA.2.2.2 hB.2.2.1 hB.2.2.2 hx
end
end Go.Proofs.YtmbbdjpnecjleaaGreat
namespace Go.Proofs.YtmbbdjpnecjleaaGreat
section
set_option maxRecDepth 100000
set_option maxHeartbeats 1000000
open Go.RowKit

theorem red1 (s : Bool) (n : Nat) : (redQ s n 1).d = 1 ∧ (redQ s n 1).top = sg s n := by
 have hd : (redQ s n 1).d = 1 := by
  unfold redQ
  split
  · rfl
  · simp
 have h := redQ_val s n 1
 rw [hd] at h
 exact ⟨hd, by simpa using h⟩
theorem sum1 (s s' : Bool) (x y : Nat) : (sumQ s s' x y 1).d = 1 ∧ (sumQ s s' x y 1).top = sg s x + sg s' y := by
 have hd : (sumQ s s' x y 1).d = 1 := by
  unfold sumQ
  split
  · exact (red1 _ _).1
  · split
    · exact (red1 _ _).1
    · exact (red1 _ _).1
 have h := sumQ_val s s' x y 1
 rw [hd] at h
 exact ⟨hd, by simpa using h⟩
theorem div_plain {a b q p r s : Q} (ha : Fit a) (hda : a.d = 1) (hdb : b.d = 1) (h0 : b.n ≠ 0) (hp : p = redQ (q.s != b.s) (q.n * b.n) (q.d * b.d)) (hqn : q.n = a.n / b.n) (hqd : q.d = 1) (hqs : q.n ≠ 0 → q.s = (a.s != b.s))
 (hr : r = sumQ a.s (p.s != true) (a.n * p.d) (p.n * a.d) (a.d * p.d)) (hs : s = sumQ p.s (r.s != false) (p.n * r.d) (r.n * p.d) (p.d * r.d)) (hsf : Fit s) : s = a ∧ r.n < b.n := by
 rw [hqd, hdb, Nat.mul_one] at hp
 obtain ⟨p1, p2⟩ := red1 (q.s != b.s) (q.n * b.n)
 rw [← hp] at p1 p2
 rw [p1, hda, Nat.mul_one, Nat.mul_one, Nat.mul_one] at hr
 obtain ⟨r1, r2⟩ := sum1 a.s (p.s != true) a.n p.n
 rw [← hr] at r1 r2
 rw [p1, r1, Nat.mul_one, Nat.mul_one, Nat.mul_one] at hs
 obtain ⟨s1, s2⟩ := sum1 p.s (r.s != false) p.n r.n
 rw [← hs] at s1 s2
 rw [Bool.bne_true, sg_not] at r2
 rw [Bool.bne_false] at s2
 have et : s.top = a.top := by
  show s.top = sg a.s a.n
  rw [s2]
  have : sg r.s r.n = sg a.s a.n + -sg p.s p.n := r2
  rw [this]
  omega
 refine ⟨Q_uniq hsf.2.2 ha.2.2 (by rw [et, hda, s1]), ?_⟩
 have hp2 : sg p.s p.n = sg (q.s != b.s) (q.n * b.n) := p2
 have hr2 : sg r.s r.n = sg a.s a.n + -sg p.s p.n := r2
 rw [hp2] at hr2
 have hm : a.n / b.n * b.n + a.n % b.n = a.n := by rw [Nat.mul_comm]; exact Nat.div_add_mod a.n b.n
 have hlt : a.n % b.n < b.n := Nat.mod_lt _ (Nat.pos_of_ne_zero h0)
 have key : sg r.s r.n = sg a.s (a.n % b.n) := by
  rw [hr2]
  by_cases hz : q.n = 0
  · rw [hz, Nat.zero_mul]
    rw [hqn] at hz
    rw [hz, Nat.zero_mul, Nat.zero_add] at hm
    rw [hm]
    cases (q.s != b.s) <;> simp [sg]
  · have e : (q.s != b.s) = a.s := by rw [hqs hz]; cases a.s <;> cases b.s <;> rfl
    rw [e, hqn]
    generalize a.n / b.n * b.n = X at hm
    generalize a.n % b.n = Y at hm
    rw [← hm]
    cases a.s <;> simp [sg] <;> omega
 rw [(sg_abs key).1]
 exact hlt
def vdOf (k : Int) (b : Bool) (s : ByteArray) (q : Q) : VD := ⟨k, b, s, q.s, limbs q.n, limbs q.d⟩
theorem HOK.lim {t k : Int} {b : Bool} {s : ByteArray} {q : Q} {e : Int} (h : HOK t k b s q e) : (vdOf k b s q).lim := by
 have hz : ∀ k b s, (vdOf k b s noQ).lim := fun k b s => ⟨limbs_lim _, limbs_lim _, Nat.zero_le _, Nat.zero_le _⟩
 cases h with
 | err _ _ => exact hz _ _ _
 | one _ _ => exact hz _ _ _
 | two _ _ _ => exact hz _ _ _
 | num q h _ _ => exact ⟨limbs_lim _, limbs_lim _, len18 h.1, len18 h.2.1⟩
theorem num_whole {t : Int} (h : wholeB t = true) : basB t = true ∧ numB t = true ∧ kindI t = 3 ∧ ¬ t = 12 ∧ ¬ t = 13 := by
 unfold wholeB at h
 simp only [Bool.or_eq_true, Bool.and_eq_true, decide_eq_true_eq] at h
 have hc : t = 2 ∨ t = 3 ∨ t = 4 ∨ t = 5 ∨ t = 6 ∨ t = 7 ∨ t = 8 ∨ t = 9 ∨ t = 10 ∨ t = 11 ∨ t = 16 ∨ t = 17 := by omega
 rcases hc with rfl | rfl | rfl | rfl | rfl | rfl | rfl | rfl | rfl | rfl | rfl | rfl <;> decide
theorem fits_same {q v : Q} {t : Int} (hw : wholeB t = true) (h : FitsR q t v 0) : v = q := by
 obtain ⟨-, -, h3, h12, h13⟩ := num_whole hw
 rcases h with ⟨_, _, h⟩ | ⟨_, _, _, _, h⟩ | ⟨_, _, _, _, h, _⟩ | ⟨h, _⟩ | ⟨h, _⟩ | ⟨_, h, _⟩
 · cases h
 · cases h
 · exact h
 · exact absurd h h12
 · exact absurd h h13
 · rw [hw] at h; cases h
structure DivR (a b : VD) (t : Int) (kn : Int) (bn : Bool) (sn : ByteArray) (qn : Q) (en : Int) (km : Int) (bm : Bool) (sm : ByteArray) (qm : Q) (em : Int) (kl : Int) (bl : Bool) (sl : ByteArray) (ql : Q) (el : Int) (kx : Int) (bx : Bool) (sx : ByteArray) (qx : Q) (ex : Int) : Prop where
 n : KBinP ⟨#[47]⟩ a b t kn bn sn qn en
 m : KBinP ⟨#[42]⟩ (vdOf kn bn sn qn) b t km bm sm qm em
 l : KBinP ⟨#[37]⟩ a b t kl bl sl ql el
 x : KBinP ⟨#[43]⟩ (vdOf km bm sm qm) (vdOf kl bl sl ql) t kx bx sx qx ex
 fin : a.right = true → b.right = true → wholeB t = true → a.k = 3 → b.k = 3 → en = 0 → em = 0 → el = 0 → ex = 0 → qx.s = a.g ∧ limbs qx.n = a.xs ∧ limbs qx.d = a.ys ∧ ∃ nb, b.xs = limbs nb ∧ nb < Top ∧ ql.n < nb ∧ ql.n < Top
theorem div_res (a b : VD) (t : Int) (la : a.lim) (lb : b.lim) : ∃ kn bn sn qn en km bm sm qm em kl bl sl ql el kx bx sx qx ex, DivR a b t kn bn sn qn en km bm sm qm em kl bl sl ql el kx bx sx qx ex := by
 by_cases hc : a.right = true ∧ b.right = true ∧ wholeB t = true ∧ a.k = 3 ∧ b.k = 3
 · obtain ⟨ra, rb, hw, hka, hkb⟩ := hc
   obtain ⟨x, hx⟩ := of_right la ra
   obtain ⟨y, hy⟩ := of_right lb rb
   obtain ⟨p, hp, rfl, -⟩ := hx.num_is hka
   obtain ⟨q, hq, rfl, -⟩ := hy.num_is hkb
   obtain ⟨hbas, hnum, -, -, -⟩ := num_whole hw
   by_cases hd : p.d = 1 ∧ q.d = 1 ∧ q.n ≠ 0
   · obtain ⟨hpd, hqd, h0⟩ := hd
     obtain ⟨Q1, P1, R1, e1, fQ, fP, fR, fR2, oQ, oP, oR, -, eP, eQn, eQd, eQs, eR⟩ := divK p q t hp hq hw hpd hqd h0
     obtain ⟨vn, rn, n1, n2, n3, -⟩ := num_k rowK_quo (by decide) (by decide) p q t hp hq hbas hnum (fun h => nomatch h) oQ
     obtain ⟨vl, rl, l1, l2, l3, l4⟩ := num_k rowK_left (by decide) (by decide) p q t hp hq hbas hnum (fun _ => ⟨hw, hpd, hqd⟩) oR
     have hn3 := n3 rfl
     by_cases hrn : rn = 0
     · subst hrn
       obtain rfl := fits_same hw hn3
       obtain ⟨vm, rm, m1, m2, m3, -⟩ := num_k rowK_mul (by decide) (by decide) vn q t fQ hq hbas hnum (fun h => nomatch h) oP
       by_cases hrm : rm = 0
       · subst hrm
         obtain rfl := fits_same hw (m3 rfl)
         by_cases hrl : rl = 0
         · subst hrl
           have he1 : e1 = 0 := by
            by_cases h : e1 = 0
            · exact h
            · exact absurd (l4 h) (fun e => h e.symm)
           subst he1
           obtain rfl := fits_same hw (l3 rfl)
           have fl := fR rfl
           obtain ⟨S, es, hA, hov, hok⟩ := ans_add vm vl false fP.2.2.den fl.2.2.den
           obtain ⟨vx, rx, x1, x2, x3, x4⟩ := num_k rowK_add (by decide) (by decide) vm vl t fP fl hbas hnum (fun h => nomatch h) (opk_of hA (does_add vm vl t fP fl hov hok))
           refine ⟨_, _, _, _, _, _, _, _, _, _, _, _, _, _, _, _, _, _, _, _, n1, m1, l1, x1, ?_⟩
           intro _ _ _ _ _ _ _ _ hrx
           have hes : es = 0 := by
            by_cases h : es = 0
            · exact h
            · exact absurd ((x4 h).symm.trans hrx) h
           subst hes
           rw [hrx] at x3
           obtain rfl := fits_same hw (x3 rfl)
           have hS : vx = sumQ vm.s (vl.s != false) (vm.n * vl.d) (vl.n * vm.d) (vm.d * vl.d) := by
            generalize (decide (Top ≤ vm.n * vl.d + vl.n * vm.d) || decide (Top ≤ vm.d * vl.d)) = k at hA
            cases k
            · exact (hA.fine rfl).1
            · exact absurd (hA.over rfl).2 (by decide)
           obtain ⟨g1, g2⟩ := div_plain hp hpd hqd h0 eP eQn eQd eQs (eR rfl) hS ((ans_fit hA).1 rfl)
           subst g1
           exact ⟨rfl, rfl, rfl, q.n, rfl, hq.1, g2, fl.1⟩
         · obtain ⟨kx, bx, sx, qx, ex, hX, -⟩ := bin_k ⟨#[43]⟩ (vdOf (rk 0) false ⟨#[]⟩ vm) (vdOf (rk rl) false ⟨#[]⟩ vl) t m2.lim l2.lim
           exact ⟨_, _, _, _, _, _, _, _, _, _, _, _, _, _, _, _, _, _, _, _, n1, m1, l1, hX, fun _ _ _ _ _ _ _ h _ => absurd h hrl⟩
       · obtain ⟨kx, bx, sx, qx, ex, hX, -⟩ := bin_k ⟨#[43]⟩ (vdOf (rk rm) false ⟨#[]⟩ vm) (vdOf (rk rl) false ⟨#[]⟩ vl) t m2.lim l2.lim
         exact ⟨_, _, _, _, _, _, _, _, _, _, _, _, _, _, _, _, _, _, _, _, n1, m1, l1, hX, fun _ _ _ _ _ _ h _ _ => absurd h hrm⟩
     · obtain ⟨km, bm, sm, qm, em, hM, hH⟩ := bin_k ⟨#[42]⟩ (vdOf (rk rn) false ⟨#[]⟩ vn) (numV q) t n2.lim lb
       obtain ⟨kx, bx, sx, qx, ex, hX, -⟩ := bin_k ⟨#[43]⟩ (vdOf km bm sm qm) (vdOf (rk rl) false ⟨#[]⟩ vl) t hH.lim l2.lim
       exact ⟨_, _, _, _, _, _, _, _, _, _, _, _, _, _, _, _, _, _, _, _, n1, hM, l1, hX, fun _ _ _ _ _ h _ _ _ => absurd h hrn⟩
   · by_cases h0 : q.n = 0
     · obtain ⟨vn, rn, n1, n2, -, n4⟩ := num_k rowK_quo (by decide) (by decide) p q t hp hq hbas hnum (fun h => nomatch h) (q := noQ) (e := 4) ⟨does_quo p q t (kQuo_nil p q t hp hq h0), fun h => absurd h (by decide), fun _ => rfl⟩
       obtain ⟨km, bm, sm, qm, em, hM, hH⟩ := bin_k ⟨#[42]⟩ (vdOf (rk rn) false ⟨#[]⟩ vn) (numV q) t n2.lim lb
       obtain ⟨kl, bl, sl, ql, el, hL, hH2⟩ := bin_k ⟨#[37]⟩ (numV p) (numV q) t la lb
       obtain ⟨kx, bx, sx, qx, ex, hX, -⟩ := bin_k ⟨#[43]⟩ (vdOf km bm sm qm) (vdOf kl bl sl ql) t hH.lim hH2.lim
       exact ⟨_, _, _, _, _, _, _, _, _, _, _, _, _, _, _, _, _, _, _, _, n1, hM, hL, hX, fun _ _ _ _ _ h _ _ _ => absurd ((n4 (by decide)).symm.trans h) (by decide)⟩
     · obtain ⟨kn, bn, sn, qn, en, hN, hH0⟩ := bin_k ⟨#[47]⟩ (numV p) (numV q) t la lb
       obtain ⟨km, bm, sm, qm, em, hM, hH⟩ := bin_k ⟨#[42]⟩ (vdOf kn bn sn qn) (numV q) t hH0.lim lb
       have hz : ¬ (p.d = 1 ∧ q.d = 1 ∧ wholeB t = true) := fun h => hd ⟨h.1, h.2.1, h0⟩
       have hL : KBinP ⟨#[37]⟩ (numV p) (numV q) t 0 false ⟨#[]⟩ noQ 11 := by
        rintro A B A' B' c d c' d' W ⟨h1, h2, k1, k2⟩ ⟨h3, h4, k3, k4⟩
        exact kBin_frac ⟨#[37]⟩ 58 cpN t p q A B A' B' c d c' d' W h1 h2 h3 h4 k1 k2 k3 k4 hp hq (by decide) (by decide) rowK_left.look hbas hnum hz
       obtain ⟨kx, bx, sx, qx, ex, hX, -⟩ := bin_k ⟨#[43]⟩ (vdOf km bm sm qm) (vdOf 0 false ⟨#[]⟩ noQ) t hH.lim (HOK.lim (.err 11 (by decide) : HOK t 0 false ⟨#[]⟩ noQ 11))
       exact ⟨_, _, _, _, _, _, _, _, _, _, _, _, _, _, _, _, _, _, _, _, hN, hM, hL, hX, fun _ _ _ _ _ _ _ h _ => absurd h (by decide)⟩
 · obtain ⟨kn, bn, sn, qn, en, hN, hH0⟩ := bin_k ⟨#[47]⟩ a b t la lb
   obtain ⟨km, bm, sm, qm, em, hM, hH⟩ := bin_k ⟨#[42]⟩ (vdOf kn bn sn qn) b t hH0.lim lb
   obtain ⟨kl, bl, sl, ql, el, hL, hH2⟩ := bin_k ⟨#[37]⟩ a b t la lb
   obtain ⟨kx, bx, sx, qx, ex, hX, -⟩ := bin_k ⟨#[43]⟩ (vdOf km bm sm qm) (vdOf kl bl sl ql) t hH.lim hH2.lim
   exact ⟨_, _, _, _, _, _, _, _, _, _, _, _, _, _, _, _, _, _, _, _, hN, hM, hL, hX, fun h1 h2 h3 h4 h5 => absurd ⟨h1, h2, h3, h4, h5⟩ hc⟩
end
end Go.Proofs.YtmbbdjpnecjleaaGreat
