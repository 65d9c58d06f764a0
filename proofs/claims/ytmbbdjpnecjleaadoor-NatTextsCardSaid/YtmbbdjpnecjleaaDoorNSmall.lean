/-
  small, up, Of, walked.
-/
import Derived.Test.YtmbbdjpnecjleaaDoorNSub
namespace Go.Proofs.YtmbbdjpnecjleaaDoor
open Go.RowKit

/-- How far the number times the base is. -/
structure SmRel (w wr : World) (xs : List Nat) (b d : Nat) (v : Value) (k c : Nat) (out : List Nat) : Prop where
  row : OutL w wr v out
  len : out.length = k
  carry : c < B32
  sum : lval out + B32 ^ k * (c + b * lval (xs.drop k)) = b * lval xs + d

theorem SmRel.step {w wr w' : World} {xs out : List Nat} {b d : Nat} {v v' : Value} {k c x : Nat} (h : SmRel w wr xs b d v k c out) (hx : x = xs.getD k 0)
    (hc' : (c + x * b) / B32 < B32) (ho : OutL w w' v' (out ++ [(c + x * b) % B32])) : SmRel w w' xs b d v' (k + 1) ((c + x * b) / B32) (out ++ [(c + x * b) % B32]) := by
  refine ⟨ho, by rw [List.length_append, h.len]; rfl, hc', ?_⟩
  rw [lval_snoc, h.len, Nat.add_assoc, Nat.pow_succ, carry_step, ← h.sum, lval_drop xs k, ← hx, Nat.mul_add b, Nat.mul_comm b x, Nat.mul_left_comm b B32, Nat.add_assoc c]
theorem SmRel.done {w wr : World} {xs out : List Nat} {b d : Nat} {v : Value} {k c : Nat} (h : SmRel w wr xs b d v k c out) (hk : k = xs.length) : lval (out ++ [c]) = b * lval xs + d := by
  rw [lval_snoc, h.len, ← h.sum, hk, List.drop_length]
  simp [lval, val]

theorem small_alg {c x b : Nat} (hc : c < 4294967296) (hx : x < 4294967296) (hb : b < 4294967296) : c + x * b < 18446744073709551616 := by
  have h1 : x * b ≤ 4294967295 * b := Nat.mul_le_mul_right _ (by omega)
  omega

set_option maxRecDepth 100000 in
set_option maxHeartbeats 1000000 in
theorem small_any (A : Option Addr) (cap : Nat) (xs : List Nat) (b d : Nat) (w : World) (h : RdL w A xs) (hx : Lim xs) (hl : xs.length ≤ 18) (hb : b < 4294967296) (hd : d < 4294967296) :
    Calls Tryd.prog 42 #[.slice A xs.length cap, .int .u64 b, .int .u64 d] w (RetN (b * lval xs + d) w) := by
  have H := Lib.hid h; clear h
  have HX := Lib.hid hx; clear hx
  have HD := Lib.hid hd; clear hd
  have HB := Lib.hid hb; clear hb
  go_enter Tryd.func42, Tryd.ntmps42
  go_wp2
  go_loopw [2, 7, 9, 12] (fun cv v _ i wr => ∃ (k c : Nat) (out : List Nat), i = .int .i64 (k : Int) ∧ cv = .int .u64 (c : Int) ∧ k ≤ xs.length ∧ SmRel w wr xs b d v k c out) (fun _ _ _ i _ => xs.length - (intOf i).toNat)
  case atStart => exact ⟨0, d, [], rfl, rfl, by omega, OutL.start w (bel_refl _), rfl, HD.out, by simp [lval, val, Nat.add_comm]⟩
  case round =>
    obtain ⟨k, c, out, rfl, rfl, hk, hrel⟩ := hrel
    have HA := Lib.hid hrel; clear hrel
    by_cases hlt : k < xs.length
    · have hlt' : (k : Int) < (xs.length : Int) := by omega
      have RX := Lib.hid (H.out.below HA.out.row.old)
      obtain ⟨g, off, rfl, hg, hcell⟩ := RX.out.at_ hlt
      obtain ⟨x, hx⟩ : ∃ x, x = xs.getD k 0 := ⟨_, rfl⟩
      have hx1 := HX.out.get k
      rw [← hx] at hx1 hcell
      have Ex := Lib.hid hx; clear hx
      have hc1 := HA.out.carry
      rw [B32_eq] at hc1
      have hb1 := HB.out
      have halg := small_alg hc1 hx1 hb1
      obtain ⟨p, hp⟩ : ∃ p : Nat, p = x * b := ⟨_, rfl⟩
      rw [← hp] at halg
      obtain ⟨q, hq⟩ : ∃ q : Nat, q = c + p := ⟨_, rfl⟩
      obtain ⟨l, hl3⟩ : ∃ l, l = q % 4294967296 := ⟨_, rfl⟩
      obtain ⟨c', hc'⟩ : ∃ c', c' = q / 4294967296 := ⟨_, rfl⟩
      have sx : IntKind.u64.wrap (x : Int) = (x : Int) := by rw [IntKind.wrap_u64]; omega
      have s1 : IntKind.u64.wrap ((x : Int) * (b : Int)) = (p : Int) := by rw [IntKind.wrap_u64, ← Int.natCast_mul, ← hp]; omega
      have s2 : IntKind.u64.wrap ((c : Int) + (p : Int)) = (q : Int) := by rw [IntKind.wrap_u64]; omega
      have s3 : IntKind.u32.wrap (q : Int) = (l : Int) := by rw [IntKind.wrap_u32', hl3]; omega
      have s4 : (q : Int) / 4294967296 = (c' : Int) := by rw [hc']; omega
      have hcc : c' < 4294967296 := by omega
      have hk16 : out.length ≤ 18 := by have := HA.out.len; omega
      have HS := Lib.hid (And.intro hp (And.intro hq (And.intro hl3 (And.intro hc' hcc)))); clear hp hq hcc hl3 hc' hx1 hc1 hb1 halg
      go_wp2_with (at_builtin; refine wpList_push _ rfl _ _ 23 rfl w.heap.size 59 (.int .u32 0) 4 (by kernel_rfl) info_u32 rfl _ out.length (nums .u32 out) rfl (.int .u32 (l : Int)) rfl rfl ?_ ?_ ?_ ?_ ?_; exact HA.out.row.own; (unfold maxLen; omega); omega; exact HA.out.row.old.size; intro v' w2 hown hbel; have HO := Lib.hid (And.intro hown hbel); clear hown hbel)
      go_roundw
      case rel =>
        obtain ⟨hp, hq, hl3, hc', hcc⟩ := HS.out
        subst hp hq hl3 hc'
        exact ⟨k + 1, _, _, by go_num, rfl, by omega, HA.out.step Ex.out hcc (HA.out.row.more (Nat.mod_lt _ (by decide)) HO.out.2 HO.out.1)⟩
      case measure => simp [intOf]; omega
    · have hkm : k = xs.length := by omega
      have hdone := Lib.hid (HA.out.done hkm)
      have hc1 := HA.out.carry
      rw [B32_eq] at hc1
      have s3 : IntKind.u32.wrap (c : Int) = (c : Int) := by rw [IntKind.wrap_u32']; omega
      have HC := Lib.hid hc1; clear hc1
      have hlo : out.length ≤ 18 := by have := HA.out.len; omega
      go_wp2_with (at_builtin; refine wpList_push _ rfl _ _ 23 rfl w.heap.size 59 (.int .u32 0) 4 (by kernel_rfl) info_u32 rfl _ out.length (nums .u32 out) rfl (.int .u32 (c : Int)) rfl rfl ?_ ?_ ?_ ?_ ?_; exact HA.out.row.own; (unfold maxLen; omega); omega; exact HA.out.row.old.size; intro v' w2 hown hbel; have HO := Lib.hid (And.intro hown hbel); clear hown hbel)
      have hO2 := HA.out.row.more HC.out HO.out.2 HO.out.1
      obtain ⟨A9, c9, hv, hc9, hm9, hr9⟩ := own_rdL hO2.own rfl
      have hl9 : (out ++ [c]).length ≤ 19 := by rw [List.length_append]; simp; omega
      subst hv
      have R9 := Lib.hid hr9; clear hr9
      have O2 := Lib.hid hO2; clear hO2
      refine (trim_N A9 c9 (out ++ [c]) _ R9.out O2.out.lim hc9 (by omega)).mono ?_
      rintro e w3 ⟨v3, rfl, hn2, hb2⟩
      have HN2 := Lib.hid hn2; clear hn2
      have HB2 := Lib.hid hb2; clear hb2
      go_wp2
      go_ret
      rw [← hdone.out]
      exact ⟨_, rfl, HN2.out, bel_trans O2.out.old HB2.out⟩
end Go.Proofs.YtmbbdjpnecjleaaDoor
