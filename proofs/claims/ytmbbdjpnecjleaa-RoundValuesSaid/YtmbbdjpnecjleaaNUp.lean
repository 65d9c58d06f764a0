/-
  up, Of, walked.
-/
import Derived.Test.YtmbbdjpnecjleaaNSmall
namespace Go.Proofs.Ytmbbdjpnecjleaa
set_option maxRecDepth 100000
open Go.RowKit

theorem or_bit (p c : Nat) (hc : c ≤ 1) (hp : p < 4294967296) (h2 : p % 2 = 0) : bits BinOp.or IntKind.u32 (p : Int) (c : Int) = ((p + c : Nat) : Int) := by
  rw [u32_or_nat p c hp (by omega)]
  have h := Nat.two_pow_add_eq_or_of_lt (i := 1) (b := c) (by omega) (p / 2)
  rw [show 2 ^ 1 * (p / 2) = p by omega] at h
  rw [← h]

/-- How far the number times two. -/
structure UpRel (w wr : World) (xs : List Nat) (d : Nat) (v : Value) (k c : Nat) (out : List Nat) : Prop where
  row : OutL w wr v out
  len : out.length = k
  carry : c ≤ 1
  sum : lval out + B32 ^ k * (c + 2 * lval (xs.drop k)) = 2 * lval xs + d

theorem UpRel.step {w wr w' : World} {xs out : List Nat} {d : Nat} {v v' : Value} {k c x : Nat} (h : UpRel w wr xs d v k c out) (hx : x = xs.getD k 0)
    (hc' : (c + x * 2) / B32 ≤ 1) (ho : OutL w w' v' (out ++ [(c + x * 2) % B32])) : UpRel w w' xs d v' (k + 1) ((c + x * 2) / B32) (out ++ [(c + x * 2) % B32]) := by
  refine ⟨ho, by rw [List.length_append, h.len]; rfl, hc', ?_⟩
  rw [lval_snoc, h.len, Nat.add_assoc, Nat.pow_succ, carry_step, ← h.sum, lval_drop xs k, ← hx, Nat.mul_add 2, Nat.mul_comm 2 x, Nat.mul_left_comm 2 B32, Nat.add_assoc c]
theorem UpRel.done {w wr : World} {xs out : List Nat} {d : Nat} {v : Value} {k c : Nat} (h : UpRel w wr xs d v k c out) (hk : k = xs.length) : lval (out ++ [c]) = 2 * lval xs + d := by
  rw [lval_snoc, h.len, ← h.sum, hk, List.drop_length]
  simp [lval, val]

set_option maxRecDepth 100000 in
set_option maxHeartbeats 1000000 in
theorem up_any (A : Option Addr) (cap : Nat) (xs : List Nat) (d : Nat) (w : World) (h : RdL w A xs) (hx : Lim xs) (hl : xs.length ≤ 18) (hd : d ≤ 1) :
    Calls Try.prog 95 #[.slice A xs.length cap, .int .u32 d] w (RetF w.heap.size (2 * lval xs + d) w) := by
  have H := Lib.hid h; clear h
  have HX := Lib.hid hx; clear hx
  have HD := Lib.hid hd; clear hd
  go_enter Try.func95, Try.ntmps95
  go_wp2
  go_loopw [1, 5, 7, 10] (fun cv v _ i wr => ∃ (k c : Nat) (out : List Nat), i = .int .i64 (k : Int) ∧ cv = .int .u32 (c : Int) ∧ k ≤ xs.length ∧ UpRel w wr xs d v k c out) (fun _ _ _ i _ => xs.length - (intOf i).toNat)
  case atStart => exact ⟨0, d, [], rfl, rfl, by omega, OutL.start w (bel_refl _), rfl, HD.out, by simp [lval, val, Nat.add_comm]⟩
  case round =>
    obtain ⟨k, c, out, rfl, rfl, hk, hrel⟩ := hrel
    have HA := Lib.hid hrel; clear hrel
    by_cases hlt : k < xs.length
    · have hlt' : (k : Int) < (xs.length : Int) := by omega
      have RX := Lib.hid (H.out.below HA.out.row.old)
      obtain ⟨g, off, rfl, hg, hcell⟩ := RX.out.at_ hlt
      obtain ⟨x, hx⟩ : ∃ x, x = xs.getD k 0 := ⟨_, rfl⟩
      have hx1 := HX.out.get k
      rw [← hx] at hx1 hcell
      have Ex := Lib.hid hx; clear hx
      have hc1 := HA.out.carry
      have hk16 : out.length ≤ 18 := by have := HA.out.len; omega
      obtain ⟨l, hl3⟩ : ∃ l, l = (c + x * 2) % 4294967296 := ⟨_, rfl⟩
      obtain ⟨c', hc'⟩ : ∃ c', c' = (c + x * 2) / 4294967296 := ⟨_, rfl⟩
      have s1 : bits BinOp.or IntKind.u32 ((x : Int) * 2 % 4294967296) (c : Int) = (l : Int) := by
        have := or_bit (x * 2 % 4294967296) c hc1 (by omega) (by omega)
        rw [show ((x * 2 % 4294967296 : Nat) : Int) = (x : Int) * 2 % 4294967296 by omega] at this
        rw [this]; omega
      have s2 : (x : Int) / 2147483648 = (c' : Int) := by omega
      have hcc : c' ≤ 1 := by omega
      have HS := Lib.hid (And.intro hl3 (And.intro hc' hcc)); clear hl3 hc' hcc hc1 hx1
      go_wp2_with (at_builtin; refine wpList_push _ rfl _ _ 23 rfl w.heap.size 80 (.int .u32 0) 4 (by kernel_rfl) info_u32 rfl _ out.length (nums .u32 out) rfl (.int .u32 (l : Int)) rfl rfl ?_ ?_ ?_ ?_ ?_; exact HA.out.row.own; (unfold maxLen; omega); omega; exact HA.out.row.old.size; intro v' w2 hown hbel; have HO := Lib.hid (And.intro hown hbel); clear hown hbel)
      go_roundw
      case rel =>
        obtain ⟨hl3, hc', hcc⟩ := HS.out
        subst hl3 hc'
        exact ⟨k + 1, _, _, by go_num, rfl, by omega, HA.out.step Ex.out hcc (HA.out.row.more (Nat.mod_lt _ (by decide)) HO.out.2 HO.out.1)⟩
      case measure => simp [intOf]; omega
    · have hkm : k = xs.length := by omega
      have hdone := Lib.hid (HA.out.done hkm)
      have hc1 := HA.out.carry
      have HC := Lib.hid hc1; clear hc1
      have hlo : out.length ≤ 18 := by have := HA.out.len; omega
      go_wp2_with (at_builtin; refine wpList_push _ rfl _ _ 23 rfl w.heap.size 80 (.int .u32 0) 4 (by kernel_rfl) info_u32 rfl _ out.length (nums .u32 out) rfl (.int .u32 (c : Int)) rfl rfl ?_ ?_ ?_ ?_ ?_; exact HA.out.row.own; (unfold maxLen; omega); omega; exact HA.out.row.old.size; intro v' w2 hown hbel; have HO := Lib.hid (And.intro hown hbel); clear hown hbel)
      have hO2 := HA.out.row.more (x := c) (by have := HC.out; rw [B32_eq]; omega) HO.out.2 HO.out.1
      obtain ⟨A9, c9, hv, hc9, hm9, hr9, hf9⟩ := own_rdF hO2.own rfl
      have hl9 : (out ++ [c]).length ≤ 19 := by rw [List.length_append]; simp; omega
      subst hv
      have R9 := Lib.hid hr9; clear hr9
      have O2 := Lib.hid hO2; clear hO2
      have F9 := Lib.hid hf9; clear hf9
      refine (trim_F w.heap.size A9 c9 (out ++ [c]) _ R9.out O2.out.lim hc9 (by omega) F9.out).mono ?_
      rintro e w3 ⟨v3, rfl, hn2, hf2, hb2⟩
      have HF2 := Lib.hid hf2; clear hf2
      have HN2 := Lib.hid hn2; clear hn2
      have HB2 := Lib.hid hb2; clear hb2
      go_wp2
      go_ret
      rw [← hdone.out]
      exact ⟨_, rfl, HN2.out, HF2.out, bel_trans O2.out.old HB2.out⟩

set_option maxHeartbeats 400000 in
theorem of_any (n : Nat) (w : World) (hn : n < 18446744073709551616) : Calls Try.prog 75 #[.int .u64 n] w (RetN n w) := by
  obtain ⟨lo, hlo⟩ : ∃ lo, lo = n % 4294967296 := ⟨_, rfl⟩
  obtain ⟨hi, hhi⟩ : ∃ hi, hi = n / 4294967296 := ⟨_, rfl⟩
  have s1 : IntKind.u32.wrap (n : Int) = (lo : Int) := by rw [IntKind.wrap_u32']; omega
  have s2 : (n : Int) / 4294967296 = (hi : Int) := by omega
  have s3 : IntKind.u32.wrap (hi : Int) = (hi : Int) := by rw [IntKind.wrap_u32']; omega
  have hlo1 : lo < 4294967296 := by omega
  have hhi1 : hi < 4294967296 := by omega
  have HE : Hid (n = lo + 4294967296 * hi) := by show n = _; omega
  clear hlo hhi hn
  go_enter Try.func75, Try.ntmps75
  go_wp2_with fail
  have hblk := Blk.new w 80 (nums .u32 [lo, hi]).toArray
  have hrow : Hid (RdL (w.alloc (.cells #[.int .u32 (lo : Int), .int .u32 (hi : Int)] 80)) (some ⟨w.heap.size, 0, none⟩) [lo, hi]) := fun _ =>
    ⟨w.heap.size, 0, rfl, by simp, fun k hk => by
      rw [Nat.zero_add]
      refine (hblk.cell k).trans ?_
      match k, hk with
      | 0, _ => rfl
      | 1, _ => rfl⟩
  refine (trim_N _ 2 [lo, hi] _ hrow.out (by intro x hx; simp at hx; rw [B32_eq]; omega) (Nat.le_refl _) (by simp)).mono ?_
  rintro e w3 ⟨v3, rfl, hn2, hb2⟩
  have HN2 := Lib.hid hn2; clear hn2
  have HB2 := Lib.hid hb2; clear hb2
  go_wp2
  go_ret
  have e : lval [lo, hi] = n := by rw [HE.out]; simp [lval, val, B32_eq]
  rw [e] at HN2
  exact ⟨_, rfl, HN2.out, bel_trans (bel_alloc (bel_refl _) _) HB2.out⟩
end Go.Proofs.Ytmbbdjpnecjleaa
