/-
 Parts: LawBack0 K17 K13 K14 K16.
-/
import Derived.Test.YtmbbdjpnecjleaaGreatG18
import Derived.Test.YtmbbdjpnecjleaaGreatG14
import Derived.Test.YtmbbdjpnecjleaaGreatG13
import Derived.Deep.DeepCutAuto
import Derived.Test.YtmbbdjpnecjleaaGreatG25
import Derived.Test.YtmbbdjpnecjleaaGreatG23
import Derived.Test.YtmbbdjpnecjleaaGreatG26
namespace Go.Proofs.YtmbbdjpnecjleaaGreat
section
set_option maxRecDepth 100000
set_option maxHeartbeats 1000000
open Go.RowKit

structure Ans (q f : Q) (e : Int) (k : Bool) : Prop where
 over : k = true → q = noQ ∧ e = 2
 fine : k = false → q = f ∧ e = 0 ∧ f.n < Top ∧ f.d < Top ∧ QR f
theorem sumQ_fit {s s' : Bool} {x y z : Nat} (hx : x < Top) (hy : y < Top) (hxy : x + y < Top) (hz : z < Top) (h0 : z ≠ 0) : (sumQ s s' x y z).n < Top ∧ (sumQ s s' x y z).d < Top ∧ QR (sumQ s s' x y z) := by
 unfold sumQ
 split
 · exact redQ_fit hxy hz h0 rfl
 · split
   · exact redQ_fit (lt_top (Nat.sub_le _ _) hy) hz h0 rfl
   · exact redQ_fit (lt_top (Nat.sub_le _ _) hx) hz h0 rfl
theorem ans_add (a b : Q) (l : Bool) (ha : a.d ≠ 0) (hb : b.d ≠ 0) : ∃ q e, Ans q (sumQ a.s (b.s != l) (a.n * b.d) (b.n * a.d) (a.d * b.d)) e (decide (Top ≤ a.n * b.d + b.n * a.d) || decide (Top ≤ a.d * b.d)) ∧
 (¬ (a.n * b.d < Top ∧ b.n * a.d < Top ∧ a.d * b.d < Top ∧ a.n * b.d + b.n * a.d < Top) → q = noQ ∧ e = 2) ∧ (a.n * b.d < Top → b.n * a.d < Top → a.d * b.d < Top → a.n * b.d + b.n * a.d < Top → sumQ a.s (b.s != l) (a.n * b.d) (b.n * a.d) (a.d * b.d) = q ∧ e = 0) := by
 by_cases h : a.n * b.d < Top ∧ b.n * a.d < Top ∧ a.d * b.d < Top ∧ a.n * b.d + b.n * a.d < Top
 · refine ⟨_, 0, ⟨fun hk => ?_, fun _ => ⟨rfl, rfl, sumQ_fit h.1 h.2.1 h.2.2.2 h.2.2.1 (den_ne ha hb)⟩⟩, fun h' => absurd h h', fun _ _ _ _ => ⟨rfl, rfl⟩⟩
   rw [decide_eq_false (by omega), decide_eq_false (by omega)] at hk
   cases hk
 · refine ⟨noQ, 2, ⟨fun _ => ⟨rfl, rfl⟩, fun hk => ?_⟩, fun _ => ⟨rfl, rfl⟩, fun h1 h2 h3 h4 => absurd ⟨h1, h2, h3, h4⟩ h⟩
   rw [Bool.or_eq_false_iff] at hk
   have h1 := of_decide_eq_false hk.1
   have h2 := of_decide_eq_false hk.2
   exact absurd ⟨by omega, by omega, by omega, by omega⟩ h
theorem ans_red (s : Bool) (x y : Nat) (hy : y ≠ 0) : ∃ q e, Ans q (redQ s x y) e (overB false x y) ∧ (¬ (x < Top ∧ y < Top) → q = noQ ∧ e = 2) ∧ (x < Top → y < Top → redQ s x y = q ∧ e = 0) := by
 unfold overB
 by_cases h : x < Top ∧ y < Top
 · refine ⟨_, 0, ⟨fun hk => ?_, fun _ => ⟨rfl, rfl, redQ_fit h.1 h.2 hy rfl⟩⟩, fun h' => absurd h h', fun _ _ => ⟨rfl, rfl⟩⟩
   rw [decide_eq_false (by omega), decide_eq_false (by omega)] at hk
   cases hk
 · refine ⟨noQ, 2, ⟨fun _ => ⟨rfl, rfl⟩, fun hk => ?_⟩, fun _ => ⟨rfl, rfl⟩, fun h1 h2 => absurd ⟨h1, h2⟩ h⟩
   rw [Bool.false_or, Bool.or_eq_false_iff] at hk
   have h1 := of_decide_eq_false hk.1
   have h2 := of_decide_eq_false hk.2
   exact absurd ⟨by omega, by omega⟩ h
end
end Go.Proofs.YtmbbdjpnecjleaaGreat
namespace Go.Proofs.YtmbbdjpnecjleaaGreat
section
set_option maxRecDepth 100000
set_option maxHeartbeats 1000000
open Go.RowKit

def Fit (q : Q) : Prop := q.n < Top ∧ q.d < Top ∧ QR q
def cpG (i : Nat) : Nat → Nat → Nat → Nat → Nat → Nat → Array Value := fun g1 g2 g3 g4 g5 g6 => #[.pointer (some ⟨if i = 1 then g1 else if i = 2 then g2 else if i = 3 then g3 else if i = 4 then g4 else if i = 5 then g5 else g6, 0, none⟩)]
def cpN : Nat → Nat → Nat → Nat → Nat → Nat → Array Value := fun _ _ _ _ _ _ => #[]
theorem app1 (x y z p : Value) : #[x, y, z] ++ #[p] = #[x, y, z, p] := rfl
theorem app0 (x y z : Value) : #[x, y, z] ++ #[] = #[x, y, z] := rfl
theorem does_add {q : Q} {e : Int} (a b : Q) (t : Int) (ha : Fit a) (hb : Fit b) (hov : ¬ (a.n * b.d < Top ∧ b.n * a.d < Top ∧ a.d * b.d < Top ∧ a.n * b.d + b.n * a.d < Top) → q = noQ ∧ e = 2) (hok : a.n * b.d < Top → b.n * a.d < Top → a.d * b.d < Top → a.n * b.d + b.n * a.d < Top → sumQ a.s (b.s != false) (a.n * b.d) (b.n * a.d) (a.d * b.d) = q ∧ e = 0) : DoesQ 95 (cpG 1) a b t q e := by
 intro W g1 g2 g3 g4 g5 g6 A B A' B' c d c' d' hO h1 h2 h3 h4 k1 k2 k3 k4
 rw [show cpG 1 g1 g2 g3 g4 g5 g6 = #[.pointer (some ⟨g1, 0, none⟩)] from rfl, app1]
 exact kDrop_add g1 t a b A B A' B' c d c' d' W hO.1 (fun W' hb' => add_of _ _ _ _ _ _ _ _ _ _ _ _ _ _ W' (fun w1 hb1 => add_walk false A B A' B' c d c' d' a b w1 ((h1.below hb').below hb1) ((h2.below hb').below hb1) ((h3.below hb').below hb1) ((h4.below hb').below hb1) k1 k2 k3 k4 ha.1 ha.2.1 hb.1 hb.2.1 ha.2.2 hb.2.2 hov hok))
theorem does_sub {q : Q} {e : Int} (a b : Q) (t : Int) (ha : Fit a) (hb : Fit b) (hov : ¬ (a.n * b.d < Top ∧ b.n * a.d < Top ∧ a.d * b.d < Top ∧ a.n * b.d + b.n * a.d < Top) → q = noQ ∧ e = 2) (hok : a.n * b.d < Top → b.n * a.d < Top → a.d * b.d < Top → a.n * b.d + b.n * a.d < Top → sumQ a.s (b.s != true) (a.n * b.d) (b.n * a.d) (a.d * b.d) = q ∧ e = 0) : DoesQ 95 (cpG 2) a b t q e := by
 intro W g1 g2 g3 g4 g5 g6 A B A' B' c d c' d' hO h1 h2 h3 h4 k1 k2 k3 k4
 rw [show cpG 2 g1 g2 g3 g4 g5 g6 = #[.pointer (some ⟨g2, 0, none⟩)] from rfl, app1]
 exact kDrop_sub g2 t a b A B A' B' c d c' d' W hO.2.1 (fun W' hb' => sub_of _ _ _ _ _ _ _ _ _ _ _ _ _ _ W' (fun w1 hb1 => add_walk true A B A' B' c d c' d' a b w1 ((h1.below hb').below hb1) ((h2.below hb').below hb1) ((h3.below hb').below hb1) ((h4.below hb').below hb1) k1 k2 k3 k4 ha.1 ha.2.1 hb.1 hb.2.1 ha.2.2 hb.2.2 hov hok))
theorem does_mul {q : Q} {e : Int} (a b : Q) (t : Int) (ha : Fit a) (hb : Fit b) (hov : ¬ (a.n * b.n < Top ∧ a.d * b.d < Top) → q = noQ ∧ e = 2) (hok : a.n * b.n < Top → a.d * b.d < Top → redQ (a.s != b.s) (a.n * b.n) (a.d * b.d) = q ∧ e = 0) : DoesQ 95 (cpG 3) a b t q e := by
 intro W g1 g2 g3 g4 g5 g6 A B A' B' c d c' d' hO h1 h2 h3 h4 k1 k2 k3 k4
 rw [show cpG 3 g1 g2 g3 g4 g5 g6 = #[.pointer (some ⟨g3, 0, none⟩)] from rfl, app1]
 exact kDrop_mul g3 t a b A B A' B' c d c' d' W hO.2.2.1 (fun W' hb' => mul_walk A B A' B' c d c' d' a b W' (h1.below hb') (h2.below hb') (h3.below hb') (h4.below hb') k1 k2 k3 k4 ha.1 ha.2.1 hb.1 hb.2.1 ha.2.2 hb.2.2 hov hok)
theorem kQuo_nil (a b : Q) (t : Int) (ha : Fit a) (hb : Fit b) (h0 : b.n = 0) : ∀ W A B A' B' c d c' d', RdL W A (limbs a.n) → RdL W B (limbs a.d) → RdL W A' (limbs b.n) → RdL W B' (limbs b.d) → (limbs a.n).length ≤ c → (limbs a.d).length ≤ d → (limbs b.n).length ≤ c' → (limbs b.d).length ≤ d' → Calls Tryz.prog 57 #[.agg #[.bool a.s, .slice A (limbs a.n).length c, .slice B (limbs a.d).length d], .agg #[.bool b.s, .slice A' (limbs b.n).length c', .slice B' (limbs b.d).length d'], .int .i64 t] W (RetQE noQ 4 W) := fun W A B A' B' c d c' d' h1 h2 h3 h4 k1 k2 k3 k4 =>
 kQuo_bad t a b A B A' B' c d c' d' W h1 h2 h3 h4 k1 k2 k3 k4 (fun W A B A' B' c d c' d' h1 h2 h3 h4 k1 k2 k3 k4 => quo_zero A B A' B' c d c' d' a b W h1 h2 h3 h4 k1 k2 k3 k4 ha.1 ha.2.1 hb.1 hb.2.1 ha.2.2 hb.2.2 h0) (by decide)
theorem dec_short {n k : Nat} (h : n < Top) (hk : 160 ≤ k) : (decL n).length ≤ k := by have := decL_top h; omega
theorem quo_ex (a b : Q) (t : Int) (ha : Fit a) (hb : Fit b) (h0 : b.n ≠ 0) : ∃ q e f k, Ans q f e k ∧ (∀ W A B A' B' c d c' d', RdL W A (limbs a.n) → RdL W B (limbs a.d) → RdL W A' (limbs b.n) → RdL W B' (limbs b.d) → (limbs a.n).length ≤ c → (limbs a.d).length ≤ d → (limbs b.n).length ≤ c' → (limbs b.d).length ≤ d' → Calls Tryz.prog 57 #[.agg #[.bool a.s, .slice A (limbs a.n).length c, .slice B (limbs a.d).length d], .agg #[.bool b.s, .slice A' (limbs b.n).length c', .slice B' (limbs b.d).length d'], .int .i64 t] W (RetQE q e W)) ∧ (∀ W, Calls Tryz.prog 80 #[.agg #[.bool a.s, .string (dec a.n), .string (dec a.d), .bool false], .agg #[.bool b.s, .string (dec b.n), .string (dec b.d), .bool false], .int .i64 t] W (RetFr f k W)) ∧ (wholeB t = true → a.d = 1 → b.d = 1 → k = false ∧ f = ⟨decide (a.n / b.n ≠ 0) && (a.s != b.s), a.n / b.n, 1⟩) := by
 obtain ⟨q, e, hA, hov, hok⟩ := ans_red (a.s != b.s) (a.n * b.d) (a.d * b.n) (Nat.mul_ne_zero ha.2.2.den h0)
 have hP : ∀ W A B A' B' c d c' d', RdL W A (limbs a.n) → RdL W B (limbs a.d) → RdL W A' (limbs b.n) → RdL W B' (limbs b.d) → (limbs a.n).length ≤ c → (limbs a.d).length ≤ d → (limbs b.n).length ≤ c' → (limbs b.d).length ≤ d' → Calls Tryz.prog 101 #[.agg #[.bool a.s, .slice A (limbs a.n).length c, .slice B (limbs a.d).length d], .agg #[.bool b.s, .slice A' (limbs b.n).length c', .slice B' (limbs b.d).length d']] W (RetQE q e W) := fun W A B A' B' c d c' d' h1 h2 h3 h4 k1 k2 k3 k4 => quo_walk A B A' B' c d c' d' a b W h1 h2 h3 h4 k1 k2 k3 k4 ha.1 ha.2.1 hb.1 hb.2.1 ha.2.2 hb.2.2 h0 hov hok
 have hR : ∀ W, Calls Tryz.prog 127 #[.agg #[.bool a.s, .string (dec a.n), .string (dec a.d), .bool false], .agg #[.bool b.s, .string (dec b.n), .string (dec b.d), .bool false]] W (RetFr (redQ (a.s != b.s) (a.n * b.d) (a.d * b.n)) (overB false (a.n * b.d) (a.d * b.n)) W) := fun W => ref_quo a b W (dec_short ha.1 (by decide)) (dec_short ha.2.1 (by decide)) (dec_short hb.1 (by decide)) (dec_short hb.2.1 (by decide)) rfl rfl
 have hW : a.d = 1 → b.d = 1 → overB false (a.n * b.d) (a.d * b.n) = false ∧ (redQ (a.s != b.s) (a.n * b.d) (a.d * b.n)).n / (redQ (a.s != b.s) (a.n * b.d) (a.d * b.n)).d = a.n / b.n ∧ (a.n / b.n ≠ 0 → (redQ (a.s != b.s) (a.n * b.d) (a.d * b.n)).s = (a.s != b.s)) := by
  intro e1 e2
  rw [e1, e2, Nat.mul_one, Nat.one_mul]
  have g1 := ha.1
  have g2 := hb.1
  refine ⟨by unfold overB; rw [decide_eq_false (by omega), decide_eq_false (by omega)]; rfl, ?_, ?_⟩
  · unfold redQ
    split
    · rename_i hz
      rw [hz, Nat.zero_div, Nat.zero_div]
    · show a.n / Nat.gcd a.n b.n / (b.n / Nat.gcd a.n b.n) = a.n / b.n
      rw [Nat.div_div_eq_div_mul, Nat.mul_div_cancel' (Nat.gcd_dvd_right _ _)]
  · intro hz
    unfold redQ
    rw [if_neg (by rintro e; rw [e, Nat.zero_div] at hz; exact hz rfl)]
 generalize redQ (a.s != b.s) (a.n * b.d) (a.d * b.n) = f at *
 generalize overB false (a.n * b.d) (a.d * b.n) = k at *
 clear hov hok
 cases hw : wholeB t
 · refine ⟨q, e, f, k, hA, ?_, fun W => rQuo_free a b t W hR hw, fun h => by cases h⟩
   intro W A B A' B' c d c' d' h1 h2 h3 h4 k1 k2 k3 k4
   cases k
   · obtain ⟨rfl, rfl, -, -, -⟩ := hA.fine rfl
     exact kQuo_free t a b A B A' B' c d c' d' W h1 h2 h3 h4 k1 k2 k3 k4 hP hw
   · obtain ⟨rfl, rfl⟩ := hA.over rfl
     exact kQuo_bad t a b A B A' B' c d c' d' W h1 h2 h3 h4 k1 k2 k3 k4 hP (by decide)
 · cases k
   · obtain ⟨rfl, rfl, f1, f2, f3⟩ := hA.fine rfl
     have hfit := redQ_fit (s := q.s) (n := q.n / q.d) (d := 1) (lt_top (Nat.div_le_self _ _) f1) (by decide +kernel) (by decide) rfl
     refine ⟨_, 0, _, false, ⟨(fun h => nomatch h), fun _ => ⟨rfl, rfl, hfit⟩⟩, ?_, fun W => rQuo_whole a b t W hR hw f1 f2 f3.den rfl, fun _ e1 e2 => ⟨rfl, ?_⟩⟩
     rotate_left
     · obtain ⟨-, h1, h2⟩ := hW e1 e2
       rw [h1]
       unfold redQ
       split
       · rename_i hz
         rw [hz]; simp
       · rename_i hz
         rw [Nat.gcd_one_right, Nat.div_one, Nat.div_one, h2 hz, decide_eq_true hz, Bool.true_and]
     intro W A B A' B' c d c' d' h1 h2 h3 h4 k1 k2 k3 k4
     exact kQuo_whole t a b A B A' B' c d c' d' W h1 h2 h3 h4 k1 k2 k3 k4 hP hw f1 f2 f3 rfl
   · obtain ⟨rfl, rfl⟩ := hA.over rfl
     refine ⟨noQ, 2, f, true, ⟨fun _ => ⟨rfl, rfl⟩, (fun h => nomatch h)⟩, ?_, fun W => rQuo_bad a b t W hR hw, fun _ e1 e2 => absurd (hW e1 e2).1 (by decide)⟩
     intro W A B A' B' c d c' d' h1 h2 h3 h4 k1 k2 k3 k4
     exact kQuo_bad t a b A B A' B' c d c' d' W h1 h2 h3 h4 k1 k2 k3 k4 hP (by decide)
theorem does_quo {q : Q} {e : Int} (a b : Q) (t : Int) (h : ∀ W A B A' B' c d c' d', RdL W A (limbs a.n) → RdL W B (limbs a.d) → RdL W A' (limbs b.n) → RdL W B' (limbs b.d) → (limbs a.n).length ≤ c → (limbs a.d).length ≤ d → (limbs b.n).length ≤ c' → (limbs b.d).length ≤ d' → Calls Tryz.prog 57 #[.agg #[.bool a.s, .slice A (limbs a.n).length c, .slice B (limbs a.d).length d], .agg #[.bool b.s, .slice A' (limbs b.n).length c', .slice B' (limbs b.d).length d'], .int .i64 t] W (RetQE q e W)) : DoesQ 57 cpN a b t q e := by
 intro W g1 g2 g3 g4 g5 g6 A B A' B' c d c' d' hO h1 h2 h3 h4 k1 k2 k3 k4
 rw [show cpN g1 g2 g3 g4 g5 g6 = #[] from rfl, app0]
 exact h W A B A' B' c d c' d' h1 h2 h3 h4 k1 k2 k3 k4
theorem does_left_bad {q : Q} {e : Int} (a b : Q) (t : Int) (hQ : ∀ W A B A' B' c d c' d', RdL W A (limbs a.n) → RdL W B (limbs a.d) → RdL W A' (limbs b.n) → RdL W B' (limbs b.d) → (limbs a.n).length ≤ c → (limbs a.d).length ≤ d → (limbs b.n).length ≤ c' → (limbs b.d).length ≤ d' → Calls Tryz.prog 57 #[.agg #[.bool a.s, .slice A (limbs a.n).length c, .slice B (limbs a.d).length d], .agg #[.bool b.s, .slice A' (limbs b.n).length c', .slice B' (limbs b.d).length d'], .int .i64 t] W (RetQE q e W)) (he : ¬ e = 0) : DoesQ 58 cpN a b t q e := by
 intro W g1 g2 g3 g4 g5 g6 A B A' B' c d c' d' hO h1 h2 h3 h4 k1 k2 k3 k4
 rw [show cpN g1 g2 g3 g4 g5 g6 = #[] from rfl, app0]
 exact kLeft_bad t a b A B A' B' c d c' d' W h1 h2 h3 h4 k1 k2 k3 k4 hQ he
theorem does_left_fit {q p r : Q} {e : Int} (a b : Q) (t : Int) (hQ : ∀ W A B A' B' c d c' d', RdL W A (limbs a.n) → RdL W B (limbs a.d) → RdL W A' (limbs b.n) → RdL W B' (limbs b.d) → (limbs a.n).length ≤ c → (limbs a.d).length ≤ d → (limbs b.n).length ≤ c' → (limbs b.d).length ≤ d' → Calls Tryz.prog 57 #[.agg #[.bool a.s, .slice A (limbs a.n).length c, .slice B (limbs a.d).length d], .agg #[.bool b.s, .slice A' (limbs b.n).length c', .slice B' (limbs b.d).length d'], .int .i64 t] W (RetQE q 0 W)) (hM : ∀ W A B A' B' c d c' d', RdL W A (limbs q.n) → RdL W B (limbs q.d) → RdL W A' (limbs b.n) → RdL W B' (limbs b.d) → (limbs q.n).length ≤ c → (limbs q.d).length ≤ d → (limbs b.n).length ≤ c' → (limbs b.d).length ≤ d' → Calls Tryz.prog 56 #[.agg #[.bool q.s, .slice A (limbs q.n).length c, .slice B (limbs q.d).length d], .agg #[.bool b.s, .slice A' (limbs b.n).length c', .slice B' (limbs b.d).length d']] W (RetQE p 0 W)) (hS : ∀ W A B A' B' c d c' d', RdL W A (limbs a.n) → RdL W B (limbs a.d) → RdL W A' (limbs p.n) → RdL W B' (limbs p.d) → (limbs a.n).length ≤ c → (limbs a.d).length ≤ d → (limbs p.n).length ≤ c' → (limbs p.d).length ≤ d' → Calls Tryz.prog 55 #[.agg #[.bool a.s, .slice A (limbs a.n).length c, .slice B (limbs a.d).length d], .agg #[.bool p.s, .slice A' (limbs p.n).length c', .slice B' (limbs p.d).length d']] W (RetQE r e W)) : DoesQ 58 cpN a b t r e := by
 intro W g1 g2 g3 g4 g5 g6 A B A' B' c d c' d' hO h1 h2 h3 h4 k1 k2 k3 k4
 rw [show cpN g1 g2 g3 g4 g5 g6 = #[] from rfl, app0]
 exact kLeft_fit t a b A B A' B' c d c' d' W h1 h2 h3 h4 k1 k2 k3 k4 hQ (fun W E F c d g1 g2 g3 g4 A' B' c' d' g5 g6 g7 g8 => hM W E F A' B' c d c' d' g1 g2 g5 g6 g3 g4 g7 g8) (fun W A B c d g1 g2 g3 g4 E F c' d' g5 g6 g7 g8 => hS W A B E F c d c' d' g1 g2 g5 g6 g3 g4 g7 g8)
theorem does_bit1 {r : Q} (a b : Q) (t : Int) (ha : Fit a) (hb : Fit b) (hs : a.s = false) (hs' : b.s = false) (hr : redQ false (bop 0 a.n b.n) 1 = r) : DoesQ 103 (cpG 4) a b t r 0 := by
 intro W g1 g2 g3 g4 g5 g6 A B A' B' c d c' d' hO h1 h2 h3 h4 k1 k2 k3 k4
 rw [show cpG 4 g1 g2 g3 g4 g5 g6 = #[.pointer (some ⟨g4, 0, none⟩)] from rfl, app1]
 refine kBitly_1 g4 t a b A B A' B' c d c' d' W hO.2.2.2.1 (fun W' hb' => ?_)
 rw [hs, hs']
 have hz : lval (zipL (bop 0) (limbs a.n) (limbs b.n) (max (limbs a.n).length (limbs b.n).length)) = bop 0 a.n b.n := limbs_zip (bop_zero 0) (bop_cut 0) a.n b.n
 exact kBitw_fit 60 a b A B A' B' c d c' d' W' (h1.below hb') (h3.below hb') ha.1 hb.1 kOp1_enter (fun x y W h h' => kOp1_is x y W h h') (fun x y h h' => bop_lt 0 (n := 32) h h') (by rw [hz]; exact hr)
theorem does_neg1 (a b : Q) (t : Int) (hs : a.s = true ∨ b.s = true) : DoesQ 103 (cpG 4) a b t noQ 2 := by
 intro W g1 g2 g3 g4 g5 g6 A B A' B' c d c' d' hO h1 h2 h3 h4 k1 k2 k3 k4
 rw [show cpG 4 g1 g2 g3 g4 g5 g6 = #[.pointer (some ⟨g4, 0, none⟩)] from rfl, app1]
 refine kBitly_1 g4 t a b A B A' B' c d c' d' W hO.2.2.2.1 (fun W' hb' => ?_)
 cases ea : a.s
 · rw [hs.resolve_left (by rw [ea]; decide)]
   exact kBitw_negb 60 a b A B A' B' c d c' d' W'
 · exact kBitw_nega 60 a b A B A' B' c d c' d' W'
theorem does_bit2 {r : Q} (a b : Q) (t : Int) (ha : Fit a) (hb : Fit b) (hs : a.s = false) (hs' : b.s = false) (hr : redQ false (bop 1 a.n b.n) 1 = r) : DoesQ 103 (cpG 5) a b t r 0 := by
 intro W g1 g2 g3 g4 g5 g6 A B A' B' c d c' d' hO h1 h2 h3 h4 k1 k2 k3 k4
 rw [show cpG 5 g1 g2 g3 g4 g5 g6 = #[.pointer (some ⟨g5, 0, none⟩)] from rfl, app1]
 refine kBitly_2 g5 t a b A B A' B' c d c' d' W hO.2.2.2.2.1 (fun W' hb' => ?_)
 rw [hs, hs']
 have hz : lval (zipL (bop 1) (limbs a.n) (limbs b.n) (max (limbs a.n).length (limbs b.n).length)) = bop 1 a.n b.n := limbs_zip (bop_zero 1) (bop_cut 1) a.n b.n
 exact kBitw_fit 61 a b A B A' B' c d c' d' W' (h1.below hb') (h3.below hb') ha.1 hb.1 kOp2_enter (fun x y W h h' => kOp2_is x y W h h') (fun x y h h' => bop_lt 1 (n := 32) h h') (by rw [hz]; exact hr)
theorem does_neg2 (a b : Q) (t : Int) (hs : a.s = true ∨ b.s = true) : DoesQ 103 (cpG 5) a b t noQ 2 := by
 intro W g1 g2 g3 g4 g5 g6 A B A' B' c d c' d' hO h1 h2 h3 h4 k1 k2 k3 k4
 rw [show cpG 5 g1 g2 g3 g4 g5 g6 = #[.pointer (some ⟨g5, 0, none⟩)] from rfl, app1]
 refine kBitly_2 g5 t a b A B A' B' c d c' d' W hO.2.2.2.2.1 (fun W' hb' => ?_)
 cases ea : a.s
 · rw [hs.resolve_left (by rw [ea]; decide)]
   exact kBitw_negb 61 a b A B A' B' c d c' d' W'
 · exact kBitw_nega 61 a b A B A' B' c d c' d' W'
theorem does_bit3 {r : Q} (a b : Q) (t : Int) (ha : Fit a) (hb : Fit b) (hs : a.s = false) (hs' : b.s = false) (hr : redQ false (bop 2 a.n b.n) 1 = r) : DoesQ 103 (cpG 6) a b t r 0 := by
 intro W g1 g2 g3 g4 g5 g6 A B A' B' c d c' d' hO h1 h2 h3 h4 k1 k2 k3 k4
 rw [show cpG 6 g1 g2 g3 g4 g5 g6 = #[.pointer (some ⟨g6, 0, none⟩)] from rfl, app1]
 refine kBitly_3 g6 t a b A B A' B' c d c' d' W hO.2.2.2.2.2 (fun W' hb' => ?_)
 rw [hs, hs']
 have hz : lval (zipL (bop 2) (limbs a.n) (limbs b.n) (max (limbs a.n).length (limbs b.n).length)) = bop 2 a.n b.n := limbs_zip (bop_zero 2) (bop_cut 2) a.n b.n
 exact kBitw_fit 62 a b A B A' B' c d c' d' W' (h1.below hb') (h3.below hb') ha.1 hb.1 kOp3_enter (fun x y W h h' => kOp3_is x y W h h') (fun x y h h' => bop_lt 2 (n := 32) h h') (by rw [hz]; exact hr)
theorem does_neg3 (a b : Q) (t : Int) (hs : a.s = true ∨ b.s = true) : DoesQ 103 (cpG 6) a b t noQ 2 := by
 intro W g1 g2 g3 g4 g5 g6 A B A' B' c d c' d' hO h1 h2 h3 h4 k1 k2 k3 k4
 rw [show cpG 6 g1 g2 g3 g4 g5 g6 = #[.pointer (some ⟨g6, 0, none⟩)] from rfl, app1]
 refine kBitly_3 g6 t a b A B A' B' c d c' d' W hO.2.2.2.2.2 (fun W' hb' => ?_)
 cases ea : a.s
 · rw [hs.resolve_left (by rw [ea]; decide)]
   exact kBitw_negb 62 a b A B A' B' c d c' d' W'
 · exact kBitw_nega 62 a b A B A' B' c d c' d' W'
end
end Go.Proofs.YtmbbdjpnecjleaaGreat
namespace Go.Proofs.YtmbbdjpnecjleaaGreat
section
set_option maxRecDepth 100000
set_option maxHeartbeats 1000000
open Go.RowKit

def opB (k : Nat) : ByteArray := if k = 0 then ⟨#[38]⟩ else if k = 1 then ⟨#[124]⟩ else ⟨#[94]⟩
set_option maxHeartbeats 2000000 in
theorem rTwo_is (k x y : Nat) (w : World) (hk : k < 3) (hx : x < 2) (hy : y < 2) : Calls Tryz.prog 129 #[.string (opB k), .int .i64 (x : Int), .int .i64 (y : Int)] w (RetI0 (bop k x y : Nat) w) := by
 have h1 : k = 0 ∨ k = 1 ∨ k = 2 := by omega
 have h2 : x = 0 ∨ x = 1 := by omega
 have h3 : y = 0 ∨ y = 1 := by omega
 clear hk hx hy
 rcases h1 with rfl | rfl | rfl
 all_goals
  rcases h2 with rfl | rfl
  all_goals
   rcases h3 with rfl | rfl
   all_goals
    first
     | rw [show opB 0 = ⟨#[38]⟩ from rfl]
     | rw [show opB 1 = ⟨#[124]⟩ from rfl]
     | rw [show opB 2 = ⟨#[94]⟩ from rfl]
    go_enter Tryz.func129, Tryz.ntmps129
    go_wp2
    go_ret
    exact ⟨rfl, rfl⟩
theorem bop_low (k a b i : Nat) : bop k (a % 2 ^ (i + 1)) (b % 2 ^ (i + 1)) = bop k (a % 2 ^ i) (b % 2 ^ i) + 2 ^ i * bop k (a / 2 ^ i % 2) (b / 2 ^ i % 2) := by
 have ha : a % 2 ^ (i + 1) = a % 2 ^ i + 2 ^ i * (a / 2 ^ i % 2) := Nat.mod_pow_succ
 have hb : b % 2 ^ (i + 1) = b % 2 ^ i + 2 ^ i * (b / 2 ^ i % 2) := Nat.mod_pow_succ
 have hA : a % 2 ^ i < 2 ^ i := Nat.mod_lt _ (Nat.pow_pos (by decide))
 have hB : b % 2 ^ i < 2 ^ i := Nat.mod_lt _ (Nat.pow_pos (by decide))
 rw [ha, hb]
 apply Nat.eq_of_testBit_eq
 intro j
 have hz := bop_lt k hA hB
 rw [Nat.add_comm (bop k _ _), Nat.testBit_two_pow_mul_add _ hz]
 have e1 : (a % 2 ^ i + 2 ^ i * (a / 2 ^ i % 2)).testBit j = if j < i then (a % 2 ^ i).testBit j else (a / 2 ^ i % 2).testBit (j - i) := by rw [Nat.add_comm, Nat.testBit_two_pow_mul_add _ hA]
 have e2 : (b % 2 ^ i + 2 ^ i * (b / 2 ^ i % 2)).testBit j = if j < i then (b % 2 ^ i).testBit j else (b / 2 ^ i % 2).testBit (j - i) := by rw [Nat.add_comm, Nat.testBit_two_pow_mul_add _ hB]
 unfold bop
 split
 · rw [Nat.testBit_and, e1, e2]
   split <;> rw [Nat.testBit_and]
 · split
   · rw [Nat.testBit_or, e1, e2]
     split <;> rw [Nat.testBit_or]
   · rw [Nat.testBit_xor, e1, e2]
     split <;> rw [Nat.testBit_xor]
end
end Go.Proofs.YtmbbdjpnecjleaaGreat
namespace Go.Proofs.YtmbbdjpnecjleaaGreat
section
set_option maxRecDepth 100000
set_option maxHeartbeats 1000000
open Go.RowKit

def RetRV (k : Int) (b : Bool) (s : ByteArray) (fs : Bool) (n d : ByteArray) (e : Int) (w : World) (E : Ending) (w' : World) : Prop := E = .returned (.agg #[.int .i64 k, .bool b, .string s, .bool fs, .string n, .string d, .bool false, .int .i64 e]) ∧ Below w.heap.size w w'
theorem rNum_bad (q : Q) (w : World) : Calls Tryz.prog 76 #[.agg #[.bool q.s, .string (dec q.n), .string (dec q.d), .bool true]] w (RetRV 0 false ⟨#[]⟩ false ⟨#[]⟩ ⟨#[]⟩ 2 w) := by
 go_enter Tryz.func76, Tryz.ntmps76
 go_wp2
 refine bodyPost_ret (v := .agg #[.int .i64 0, .bool false, .string ⟨#[]⟩, .bool false, .string ⟨#[]⟩, .string ⟨#[]⟩, .bool false, .int .i64 2]) ?hr rfl ?hR
 case hR => exact ⟨rfl, bel_alloc (bel_alloc (bel_refl _) _) _⟩
 case hr =>
  have hz := Blk.new (w.alloc (.cells #[.bool q.s, .string (dec q.n), .string (dec q.d), .bool true] 37)) 39 #[.int .i64 0, .bool false, .string ⟨#[]⟩, .bool false, .string ⟨#[]⟩, .string ⟨#[]⟩, .bool false, .int .i64 2]
  rw [World.size_alloc] at hz
  exact results_cell_row rfl _ _ (w.heap.size + 1) 39 _ (0, 0) _ rfl hz Tryz.underlying39 rfl (by kernel_rfl)
theorem rNum_fit (q : Q) (w : World) : Calls Tryz.prog 76 #[.agg #[.bool q.s, .string (dec q.n), .string (dec q.d), .bool false]] w (RetRV 3 false ⟨#[]⟩ q.s (dec q.n) (dec q.d) 0 w) := by
 go_enter Tryz.func76, Tryz.ntmps76
 go_wp2
 refine bodyPost_ret (v := .agg #[.int .i64 3, .bool false, .string ⟨#[]⟩, .bool q.s, .string (dec q.n), .string (dec q.d), .bool false, .int .i64 0]) ?hr rfl ?hR
 case hR => exact ⟨rfl, bel_alloc (bel_alloc (bel_refl _) _) _⟩
 case hr =>
  have hz := Blk.new (w.alloc (.cells #[.bool q.s, .string (dec q.n), .string (dec q.d), .bool false] 37)) 39 #[.int .i64 3, .bool false, .string ⟨#[]⟩, .bool q.s, .string (dec q.n), .string (dec q.d), .bool false, .int .i64 0]
  rw [World.size_alloc] at hz
  exact results_cell_row rfl _ _ (w.heap.size + 1) 39 _ (0, 0) _ rfl hz Tryz.underlying39 rfl (by kernel_rfl)
end
end Go.Proofs.YtmbbdjpnecjleaaGreat
namespace Go.Proofs.YtmbbdjpnecjleaaGreat
section
set_option maxRecDepth 100000
set_option maxHeartbeats 1000000
open Go.RowKit

theorem rIsW_yes (q : Q) (w : World) (hd : q.d = 1) : Calls Tryz.prog 40 #[.agg #[.int .i64 3, .bool false, .string ⟨#[]⟩, .bool q.s, .string (dec q.n), .string (dec q.d), .bool false, .int .i64 0]] w (RetBB true w) := by
 have h1 : dec q.d = ⟨#[49]⟩ := by rw [hd]; exact dec_one
 rw [h1]
 clear h1 hd
 go_enter Tryz.func40, Tryz.ntmps40
 go_wp2
 go_ret
 exact ⟨rfl, bel_alloc (bel_refl _) _⟩
theorem rIsW_no (q : Q) (w : World) (hd : ¬ q.d = 1) : Calls Tryz.prog 40 #[.agg #[.int .i64 3, .bool false, .string ⟨#[]⟩, .bool q.s, .string (dec q.n), .string (dec q.d), .bool false, .int .i64 0]] w (RetBB false w) := by
 have hne : dec q.d ≠ ⟨#[49]⟩ := fun e => hd (dec_inj (by rw [e, dec_one]))
 have u1 : ¬ (dec q.d).toList = [49] := fun e => hne (by rw [ByteArray.toList_eq] at e; exact ByteArray.ext (Array.ext' e))
 have u2 : ((dec q.d).toList == [49]) = false := by simpa using u1
 clear hne hd
 go_enter Tryz.func40, Tryz.ntmps40
 go_wp2
 go_ret
 exact ⟨rfl, bel_alloc (bel_refl _) _⟩
end
end Go.Proofs.YtmbbdjpnecjleaaGreat
