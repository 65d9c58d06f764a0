/-
  sub, Sub, walked.
-/
import Derived.Test.YtmbbdjpnecjleaaNAdd
namespace Go.Proofs.Ytmbbdjpnecjleaa
set_option maxRecDepth 100000
open Go.RowKit

theorem lval_take_succ' (xs : List Nat) (k : Nat) : lval (xs.take (k + 1)) = lval (xs.take k) + B32 ^ k * xs.getD k 0 := by
  by_cases h : k < xs.length
  · exact lval_take_succ h
  · rw [List.take_of_length_le (by omega), List.take_of_length_le (by omega), List.getD_eq_getElem?_getD, List.getElem?_eq_none (by omega)]
    simp

/-- How far the difference is. -/
structure SubRel (w wr : World) (xs ys : List Nat) (v : Value) (k c : Nat) (out : List Nat) : Prop where
  row : OutL w wr v out
  len : out.length = k
  carry : c ≤ 1
  sum : lval (xs.take k) + B32 ^ k * c = lval out + lval (ys.take k)

theorem sub_alg (P x c B c' l y A O Y : Nat) (h : A + P * c = O + Y) (h2 : x + B * c' = l + (y + c)) : (A + P * x) + P * B * c' = (O + P * l) + (Y + P * y) := by
  have h3 : P * (x + B * c') = P * (l + (y + c)) := by rw [h2]
  simp only [Nat.mul_add] at h3
  rw [Nat.mul_assoc]
  omega
theorem SubRel.step {w wr w' : World} {xs ys out : List Nat} {v v' : Value} {k c x y l c' : Nat} (h : SubRel w wr xs ys v k c out) (hx : x = xs.getD k 0) (hy : y = ys.getD k 0)
    (hc' : c' ≤ 1) (he : x + B32 * c' = l + (y + c)) (ho : OutL w w' v' (out ++ [l])) : SubRel w w' xs ys v' (k + 1) c' (out ++ [l]) := by
  refine ⟨ho, by rw [List.length_append, h.len]; rfl, hc', ?_⟩
  rw [lval_snoc, h.len, Nat.pow_succ, lval_take_succ', lval_take_succ', ← hx, ← hy]
  exact sub_alg _ _ _ _ _ _ _ _ _ _ h.sum he
theorem SubRel.done {w wr : World} {xs ys out : List Nat} {v : Value} {k c : Nat} (h : SubRel w wr xs ys v k c out) (hk : k = xs.length) (hy : ys.length ≤ xs.length) (hle : lval ys ≤ lval xs) : lval out = lval xs - lval ys := by
  have hs := h.sum
  rw [List.take_of_length_le (by omega), List.take_of_length_le (by omega)] at hs
  have h1 := lval_lt h.row.lim
  rw [h.len] at h1
  have hc := h.carry
  generalize B32 ^ k = P at hs h1
  have : c = 0 ∨ c = 1 := by omega
  rcases this with rfl | rfl
  · omega
  · omega

theorem trim_N (A : Option Addr) (cap : Nat) (xs : List Nat) (w : World) (h : RdL w A xs) (hx : Lim xs) (hcap : xs.length ≤ cap) (hl : xs.length ≤ 4611686018427387900) : Calls Try.prog 89 #[.slice A xs.length cap] w (RetN (lval xs) w) :=
  (trim_any A cap xs w h hx hcap hl).mono fun _ _ hh => hh.rdN h hcap
/-- A number whose row is new. -/
def RetF (B n : Nat) (w : World) (e : Ending) (w' : World) : Prop := ∃ v, e = .returned v ∧ RdN w' v n ∧ FreshV B v ∧ Below w.heap.size w w'
theorem trim_F (B : Nat) (A : Option Addr) (cap : Nat) (xs : List Nat) (w : World) (h : RdL w A xs) (hx : Lim xs) (hcap : xs.length ≤ cap) (hl : xs.length ≤ 4611686018427387900) (hA : ∀ a, A = some a → B ≤ a.block) : Calls Try.prog 89 #[.slice A xs.length cap] w (RetF B (lval xs) w) :=
  (trim_any A cap xs w h hx hcap hl).mono fun _ _ hh => by
    obtain ⟨v, e, hn, hb⟩ := hh.rdN h hcap
    obtain ⟨e', _, _⟩ := hh
    rw [e'] at e
    injection e with e
    refine ⟨v, by rw [e', e], hn, fun a n c hv => ?_, hb⟩
    rw [← e] at hv
    injection hv with hv
    exact hA a hv
theorem at_is (A : Option Addr) (cap : Nat) (xs : List Nat) (i x : Nat) (w : World) (h : RdL w A xs) (hx : Lim xs) (he : x = xs.getD i 0) : Calls Try.prog 103 #[.slice A xs.length cap, .int .i64 i] w (RetUD (x : Int) w) := by
  rw [he]; exact at_any A cap xs i w h hx
set_option maxRecDepth 100000 in
set_option maxHeartbeats 1000000 in
theorem sub_any (A A' : Option Addr) (cap cap' : Nat) (xs ys : List Nat) (w : World) (h : RdL w A xs) (h' : RdL w A' ys) (hx : Lim xs) (hy : Lim ys) (hl : xs.length ≤ 18) (hl' : ys.length ≤ xs.length) (hle : lval ys ≤ lval xs) :
    Calls Try.prog 96 #[.slice A xs.length cap, .slice A' ys.length cap'] w (RetF w.heap.size (lval xs - lval ys) w) := by
  have H := Lib.hid h; clear h
  have H' := Lib.hid h'; clear h'
  have HX := Lib.hid hx; clear hx
  have HY := Lib.hid hy; clear hy
  have HLE := Lib.hid hle; clear hle
  go_enter Try.func96, Try.ntmps96
  go_wp2
  go_loopw [5, 6, 7, 8, 11] (fun v cv _ _ i wr => ∃ (k c : Nat) (out : List Nat), i = .int .i64 (k : Int) ∧ cv = .int .u64 (c : Int) ∧ k ≤ xs.length ∧ SubRel w wr xs ys v k c out) (fun _ _ _ _ i _ => xs.length - (intOf i).toNat)
  case atStart => exact ⟨0, 0, [], rfl, rfl, by omega, OutL.start w (bel_refl _), rfl, by omega, by simp [lval, val]⟩
  case round =>
    obtain ⟨k, c, out, rfl, rfl, hk, hrel⟩ := hrel
    have HA := Lib.hid hrel; clear hrel
    by_cases hlt : k < xs.length
    · have hlt' : (k : Int) < (xs.length : Int) := by omega
      have RX := Lib.hid (H.out.below HA.out.row.old)
      have RY := Lib.hid (H'.out.below HA.out.row.old)
      obtain ⟨g, off, rfl, hg, hcell⟩ := RX.out.at_ hlt
      obtain ⟨x, hx⟩ : ∃ x, x = xs.getD k 0 := ⟨_, rfl⟩
      obtain ⟨y, hy⟩ : ∃ y, y = ys.getD k 0 := ⟨_, rfl⟩
      have hx1 := HX.out.get k
      have hy1 := HY.out.get k
      rw [← hx] at hx1 hcell
      rw [← hy] at hy1
      have Ex := Lib.hid hx; clear hx
      have Ey := Lib.hid hy; clear hy
      have hc1 := HA.out.carry
      obtain ⟨p, hp⟩ : ∃ p : Nat, (p : Int) = ((x : Int) - (y : Int)) % 18446744073709551616 := ⟨(((x : Int) - (y : Int)) % 18446744073709551616).toNat, by omega⟩
      obtain ⟨q, hq⟩ : ∃ q : Nat, (q : Int) = ((p : Int) - (c : Int)) % 18446744073709551616 := ⟨(((p : Int) - (c : Int)) % 18446744073709551616).toNat, by omega⟩
      obtain ⟨l, hl3⟩ : ∃ l, l = q % 4294967296 := ⟨_, rfl⟩
      obtain ⟨c', hc'⟩ : ∃ c', c' = q / 9223372036854775808 := ⟨_, rfl⟩
      have sx : IntKind.u64.wrap (x : Int) = (x : Int) := by rw [IntKind.wrap_u64]; omega
      have s1 : IntKind.u64.wrap ((x : Int) - (y : Int)) = (p : Int) := by rw [IntKind.wrap_u64, hp]
      have s2 : IntKind.u64.wrap ((p : Int) - (c : Int)) = (q : Int) := by rw [IntKind.wrap_u64, hq]
      have s3 : IntKind.u32.wrap (q : Int) = (l : Int) := by rw [IntKind.wrap_u32', hl3]; omega
      have s4 : (q : Int) / 9223372036854775808 = (c' : Int) := by rw [hc']; omega
      have he : x + B32 * c' = l + (y + c) := by rw [B32_eq]; omega
      have hcc : c' ≤ 1 := by omega
      have hlb : l < B32 := by rw [B32_eq]; omega
      have hk16 : out.length ≤ 18 := by have := HA.out.len; omega
      have HS := Lib.hid (And.intro he (And.intro hcc hlb)); clear he hcc hlb hp hq hl3 hc' hx1 hy1 hc1
      go_wp2
      go_quiet (first | (go_at_call 103; exact Calls.quiet_of (at_is A' cap' ys k y _ (RY.out.drewN _) HY.out Ey.out)))
      go_wp2_with (at_builtin; refine wpList_push _ rfl _ _ 23 rfl w.heap.size 80 (.int .u32 0) 4 (by kernel_rfl) info_u32 rfl _ out.length (nums .u32 out) rfl (.int .u32 (l : Int)) rfl rfl (own_below HA.out.row.own (bel_drewN (bel_refl _) _)) (by unfold maxLen; omega) (by omega) HA.out.row.old.size ?_; intro v' w2 hown hbel; have HO := Lib.hid (And.intro hown hbel); clear hown hbel)
      go_roundw
      case rel =>
        obtain ⟨he, hcc, hlb⟩ := HS.out
        exact ⟨k + 1, c', out ++ [l], by go_num, rfl, by omega, HA.out.step Ex.out Ey.out hcc he (HA.out.row.more hlb ((bel_drewN (Below.refl _ _) _).trans HO.out.2) HO.out.1)⟩
      case measure => simp [intOf]; omega
    · have hkm : k = xs.length := by omega
      have hdone := Lib.hid (HA.out.done hkm hl' HLE.out)
      obtain ⟨A9, c9, hv, hc9, hm9, hr9, hf9⟩ := own_rdF HA.out.row.own rfl
      subst hv
      have R9 := Lib.hid hr9; clear hr9
      have F9 := Lib.hid hf9; clear hf9
      have hlo : out.length ≤ 18 := by have := HA.out.len; omega
      go_wp2_with fail
      refine (trim_F w.heap.size A9 c9 out _ R9.out HA.out.row.lim hc9 (by omega) F9.out).mono ?_
      rintro e w2 ⟨v2, rfl, hn2, hf2, hb2⟩
      have HF2 := Lib.hid hf2; clear hf2
      have HN2 := Lib.hid hn2; clear hn2
      have HB2 := Lib.hid hb2; clear hb2
      go_wp2
      go_ret
      rw [← hdone.out]
      exact ⟨_, rfl, HN2.out, HF2.out, bel_trans HA.out.row.old HB2.out⟩

theorem limbs_le_len {a b : Nat} (h : a ≤ b) : (limbs a).length ≤ (limbs b).length := by
  by_cases h' : (limbs b).length < (limbs a).length
  · have := limbs_less h'; omega
  · omega

/-- What Sub answers. -/
def subN (a b : Nat) : Nat := a - b
def subC (a b : Nat) : Int := if a < b then 3 else 0

set_option maxHeartbeats 400000 in
theorem sub_right (A A' : Option Addr) (cap cap' : Nat) (xs ys : List Nat) (w : World) (h : RdL w A xs) (h' : RdL w A' ys) (hx : Lim xs) (hy : Lim ys) (hr : rightL xs = true) (hr' : rightL ys = true) (hl : xs.length ≤ 16) (hl' : ys.length ≤ 16) :
    Calls Try.prog 100 #[.slice A xs.length cap, .slice A' ys.length cap'] w (RetNE (lval xs - lval ys) (subC (lval xs) (lval ys)) w) := by
  have H := Lib.hid h; clear h
  have H' := Lib.hid h'; clear h'
  have HX := Lib.hid hx; clear hx
  have HY := Lib.hid hy; clear hy
  have ea := Lib.hid ((rightL_iff HX.out).1 hr).1
  have eb := Lib.hid ((rightL_iff HY.out).1 hr').1
  go_enter Try.func100, Try.ntmps100
  go_wp2_with fail
  refine (both_any A A' cap cap' xs ys _ H.out H'.out (by omega) (by omega)).mono ?_
  rintro e w1 ⟨rfl, n, rfl⟩
  rw [hr, hr']
  have HR := Lib.hid hr; clear hr
  have HR' := Lib.hid hr'; clear hr'
  go_wp2_with fail
  have hc := compare_any A A' cap cap' (lval xs) (lval ys) (w.drewN n) (by rw [ea.out]; exact H.out.drewN n) (by rw [eb.out]; exact H'.out.drewN n) (by rw [ea.out]; omega)
  rw [ea.out, eb.out] at hc
  refine hc.mono ?_
  rintro e w1 ⟨rfl, m, rfl⟩
  clear hc
  by_cases hlt : lval xs < lval ys
  · rw [cmpI_lt (by omega)]
    go_wp2
    go_ret2
    unfold subC
    rw [if_pos hlt, show lval xs - lval ys = 0 by omega]
    exact ⟨_, rfl, RdN.zero, bel_drewN (bel_refl _) _⟩
  · have hge : decide (cmpI (lval xs : Int) (lval ys : Int) < 0) = false := decide_eq_false (by
      unfold cmpI
      rw [if_neg (by omega)]
      split <;> omega)
    have hge' : ¬ cmpI (lval xs : Int) (lval ys : Int) < 0 := of_decide_eq_false hge
    have hlen : ys.length ≤ xs.length := by
      have := limbs_le_len (a := lval ys) (b := lval xs) (by omega)
      rwa [ea.out, eb.out] at this
    have HLT := Lib.hid hlt; clear hlt
    go_wp2_with fail
    refine (sub_any A A' cap cap' xs ys _ (H.out.drewN _) (H'.out.drewN _) HX.out HY.out (by omega) hlen (Nat.le_of_not_lt HLT.out)).mono ?_
    rintro e w2 ⟨v2, rfl, hn2, _, hb2⟩
    have HN2 := Lib.hid hn2; clear hn2
    have HB2 := Lib.hid hb2; clear hb2
    go_wp2
    go_ret2
    unfold subC
    rw [if_neg HLT.out]
    exact ⟨_, rfl, HN2.out, bel_trans (bel_drewN (bel_refl _) _) HB2.out⟩

set_option maxHeartbeats 400000 in
theorem sub_wrong (A A' : Option Addr) (cap cap' : Nat) (xs ys : List Nat) (w : World) (h : RdL w A xs) (h' : RdL w A' ys) (hl : xs.length ≤ 4611686018427387900) (hl' : ys.length ≤ 4611686018427387900) (hr : (rightL xs && rightL ys) = false) :
    Calls Try.prog 100 #[.slice A xs.length cap, .slice A' ys.length cap'] w (RetNE 0 1 w) := by
  have H := Lib.hid h; clear h
  have H' := Lib.hid h'; clear h'
  go_enter Try.func100, Try.ntmps100
  go_wp2_with fail
  refine (both_any A A' cap cap' xs ys _ H.out H'.out hl hl').mono ?_
  rintro e w1 ⟨rfl, n, rfl⟩
  rw [hr]
  go_wp2
  go_ret2
  exact ⟨_, rfl, RdN.zero, bel_drewN (bel_refl _) _⟩
end Go.Proofs.Ytmbbdjpnecjleaa
