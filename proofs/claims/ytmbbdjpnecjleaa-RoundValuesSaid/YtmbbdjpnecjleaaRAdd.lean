/-
  The reference's Add, Small, Sub, walked.
-/
import Derived.Test.YtmbbdjpnecjleaaRDig
namespace Go.Proofs.Ytmbbdjpnecjleaa
set_option maxRecDepth 100000
open Go.RowKit

theorem refAt_is (n i d : Nat) (w : World) (hl : (decL n).length ≤ 100000) (hd : d = n / 10 ^ i % 10) :
    Calls Try.prog 86 #[.string (dec n), .int .i64 i] w (RetI (d : Int) w) := by
  rw [hd]; exact refAt_any n i w hl
theorem val10_snoc (ds : List Nat) (d : Nat) : val 10 (ds ++ [d]) = val 10 ds + 10 ^ ds.length * d := val_snoc _ _ _
theorem carry10 (P s r : Nat) : P * (s % 10) + P * 10 * (s / 10 + r) = P * (s + 10 * r) := by
  have h := Nat.mod_add_div s 10
  rw [Nat.mul_assoc, ← Nat.mul_add, Nat.mul_add 10, ← Nat.add_assoc, h]
theorem chrs_snoc (ds : List Nat) (d : Nat) : chrs (ds ++ [d]) = chrs ds ++ [48 + d] := by simp [chrs]

structure RAdd (w wr : World) (a b M : Nat) (v : Value) (i c : Nat) (ds : List Nat) : Prop where
  row : OutB w wr v (chrs ds)
  len : ds.length = i
  dig : ∀ d ∈ ds, d < 10
  carry : c ≤ 1
  sum : val 10 ds + 10 ^ i * (c + (a / 10 ^ i + b / 10 ^ i)) = a + b
  lim : i ≤ M + 1
  top : i = M + 1 → c = 0
theorem RAdd.step {w wr w' : World} {a b M : Nat} {v v' : Value} {i c x y t : Nat} {ds : List Nat} (h : RAdd w wr a b M v i c ds) (hx : x = a / 10 ^ i % 10) (hy : y = b / 10 ^ i % 10) (ht : t = x + y + c)
    (hM : (decL a).length ≤ M ∧ (decL b).length ≤ M) (hi : i ≤ M) (hrow : OutB w w' v' (chrs (ds ++ [t % 10]))) : RAdd w w' a b M v' (i + 1) (t / 10) (ds ++ [t % 10]) := by
  have hc := h.carry
  refine ⟨hrow, by rw [List.length_append, h.len]; rfl, ?_, by omega, ?_, by omega, ?_⟩
  · intro d hd
    rcases List.mem_append.1 hd with hd | hd
    · exact h.dig d hd
    · rw [List.mem_singleton.1 hd]; exact Nat.mod_lt _ (by decide)
  · rw [val10_snoc, h.len, Nat.add_assoc, Nat.pow_succ, carry10, ← h.sum, div_pow_step a i, div_pow_step b i, ← hx, ← hy, ht, Nat.pow_succ]
    congr 2
    omega
  · intro he
    have e1 : a / 10 ^ i = 0 := decL_out a i (by omega)
    have e2 : b / 10 ^ i = 0 := decL_out b i (by omega)
    rw [e1] at hx
    rw [e2] at hy
    omega
theorem RAdd.done {w wr : World} {a b M : Nat} {v : Value} {i c : Nat} {ds : List Nat} (h : RAdd w wr a b M v i c ds) (h1 : (decL a).length ≤ i) (h2 : (decL b).length ≤ i) (h3 : c = 0) : val 10 ds = a + b := by
  have hs := h.sum
  rw [decL_out a i h1, decL_out b i h2, h3] at hs
  simpa using hs

set_option maxRecDepth 100000 in
set_option maxHeartbeats 1000000 in
theorem refAdd_any (a b : Nat) (w : World) (hl : (decL a).length ≤ 10000) (hl' : (decL b).length ≤ 10000) :
    Calls Try.prog 67 #[.string (dec a), .string (dec b)] w (RetS (dec (a + b)) w) := by
  have z1 := dec_size a
  have z2 := dec_size b
  have hp1 := decL_len_pos a
  obtain ⟨la, hla⟩ : ∃ la, la = (decL a).length := ⟨_, rfl⟩
  obtain ⟨lb, hlb⟩ : ∃ lb, lb = (decL b).length := ⟨_, rfl⟩
  obtain ⟨M, hM⟩ : ∃ M, M = max la lb := ⟨_, rfl⟩
  rw [← hla] at z1 hl hp1
  rw [← hlb] at z2 hl'
  have hM1 : la ≤ M := by omega
  have hM2 : lb ≤ M := by omega
  have hM3 : M ≤ 10000 := by omega
  have hM4 : M = la ∨ M = lb := by omega
  have HL := Lib.hid (And.intro hla (And.intro hlb hM4)); clear hla hlb hM hM4
  go_enter Try.func67, Try.ntmps67
  go_wp2
  go_loopw [5, 6, 7] (fun v cv iv wr => ∃ (i c : Nat) (ds : List Nat), iv = .int .i64 (i : Int) ∧ cv = .int .i64 (c : Int) ∧ RAdd w wr a b M v i c ds) (fun _ _ i _ => M + 1 - (intOf i).toNat)
  case atStart => exact ⟨0, 0, [], rfl, rfl, ⟨bel_alloc (bel_refl _) _, own_empty _ _ _ _ (Nat.le_refl _)⟩, rfl, by simp, by omega, by simp [val], by omega, fun _ => rfl⟩
  case round =>
    obtain ⟨i, c, ds, rfl, rfl, hrel⟩ := hrel
    have HA := Lib.hid hrel; clear hrel
    have hlim := HA.out.lim
    have hlen := HA.out.len
    have hcar := HA.out.carry
    by_cases hend : la ≤ i ∧ lb ≤ i ∧ c = 0
    · obtain ⟨e1, e2, e3⟩ := hend
      have hdone := Lib.hid (HA.out.done (by rw [← HL.out.1]; exact e1) (by rw [← HL.out.2.1]; exact e2) e3)
      have q1 : ¬ (i : Int) < ((dec a).size : Int) := by omega
      have q2 : ¬ (i : Int) < ((dec b).size : Int) := by omega
      have q3 : ¬ (0 : Int) < (c : Int) := by omega
      obtain ⟨A9, c9, hv, hr9⟩ := HA.out.row.read
      subst hv
      have R9 := Lib.hid hr9; clear hr9
      have hlo : (chrs ds).length ≤ 100000 := by rw [chrs_len]; omega
      have hlo0 : 0 < (chrs ds).length := by rw [chrs_len]; omega
      have hrv : (chrs ds).reverse = chrs ds.reverse := by simp [chrs, List.map_reverse]
      have HRV := Lib.hid hrv; clear hrv
      go_wp2_with fail
      refine (reversed_any A9 c9 (chrs ds) _ R9.out hlo0 hlo).mono ?_
      rintro e w2 ⟨rfl, hb2⟩
      rw [HRV.out]
      have HB2 := Lib.hid hb2; clear hb2
      go_wp2_with fail
      refine (refTrim_any ds.reverse _ (fun d hd => HA.out.dig d (List.mem_reverse.1 hd)) (by rw [List.length_reverse]; rwa [chrs_len] at hlo0)).mono ?_
      rintro e w3 ⟨rfl, n3, rfl⟩
      rw [show bval ds.reverse = val 10 ds by unfold bval; rw [List.reverse_reverse], hdone.out]
      go_wp2
      go_ret
      exact ⟨rfl, bel_drewN (bel_trans HA.out.row.old HB2.out) _⟩
    · have him : i ≤ M := by
        have := HA.out.top
        omega
      have hq : ((i : Int) < ((dec a).size : Int)) ∨ (¬ (i : Int) < ((dec a).size : Int) ∧ (i : Int) < ((dec b).size : Int)) ∨ (¬ (i : Int) < ((dec a).size : Int) ∧ ¬ (i : Int) < ((dec b).size : Int) ∧ (0 : Int) < (c : Int)) := by omega
      obtain ⟨x, hx⟩ : ∃ x, x = a / 10 ^ i % 10 := ⟨_, rfl⟩
      obtain ⟨y, hy⟩ : ∃ y, y = b / 10 ^ i % 10 := ⟨_, rfl⟩
      have hx9 : x ≤ 9 := by omega
      have hy9 : y ≤ 9 := by omega
      have Ex := Lib.hid hx; clear hx
      have Ey := Lib.hid hy; clear hy
      obtain ⟨t1, ht1⟩ : ∃ t1, t1 = x + y := ⟨_, rfl⟩
      obtain ⟨t, ht⟩ : ∃ t, t = t1 + c := ⟨_, rfl⟩
      obtain ⟨l, hl9⟩ : ∃ l, l = t % 10 := ⟨_, rfl⟩
      obtain ⟨c', hc'⟩ : ∃ c', c' = t / 10 := ⟨_, rfl⟩
      obtain ⟨ch, hch⟩ : ∃ ch, ch = 48 + l := ⟨_, rfl⟩
      have s1 : IntKind.i64.wrap ((x : Int) + (y : Int)) = (t1 : Int) := by rw [IntKind.wrap_i64]; omega
      have s2 : IntKind.i64.wrap ((t1 : Int) + (c : Int)) = (t : Int) := by rw [IntKind.wrap_i64]; omega
      have s3 : (t : Int) % 10 = (l : Int) := by omega
      have s3' : (t : Int).tmod 10 = (l : Int) := by rw [Int.tmod_eq_emod_of_nonneg (by omega)]; exact s3
      have s4 : (t : Int) / 10 = (c' : Int) := by omega
      have s4' : (t : Int).tdiv 10 = (c' : Int) := by rw [Int.tdiv_eq_ediv_of_nonneg (by omega)]; exact s4
      have s5 : IntKind.i64.wrap (48 + (l : Int)) = (ch : Int) := by rw [IntKind.wrap_i64]; omega
      have s6 : IntKind.u8.wrap (ch : Int) = (ch : Int) := by rw [IntKind.wrap_u8']; omega
      have s7 : IntKind.i64.wrap (c' : Int) = (c' : Int) := by rw [IntKind.wrap_i64]; omega
      have s8 : IntKind.i64.wrap (l : Int) = (l : Int) := by rw [IntKind.wrap_i64]; omega
      have hMM : Hid ((decL a).length ≤ M ∧ (decL b).length ≤ M) := by
        have h1 := HL.out.1; have h2 := HL.out.2.1
        exact ⟨by omega, by omega⟩
      have HS := Lib.hid (And.intro ht1 (And.intro ht (And.intro hl9 (And.intro hc' hch)))); clear ht1 ht hl9 hc' hch hx9 hy9 hcar
      rcases hq with q1 | ⟨q1, q2⟩ | ⟨q1, q2, q3⟩
      all_goals
        go_wp2_with first
          | (go_at_call 86; (with_reducible refine (refAt_is a i x _ (by have := HL.out.1; omega) Ex.out).mono ?_); rintro e w' ⟨rfl, rfl⟩)
          | (go_at_call 86; (with_reducible refine (refAt_is b i y _ (by have := HL.out.2.1; omega) Ey.out).mono ?_); rintro e w' ⟨rfl, rfl⟩)
          | (at_builtin; refine wpList_push _ rfl _ _ 100 rfl w.heap.size 5 (.int .u8 0) 1 (by kernel_rfl) info_u8 rfl _ (chrs ds).length (nums .u8 (chrs ds)) rfl (.int .u8 (ch : Int)) rfl rfl ?_ ?_ ?_ ?_ ?_; exact HA.out.row.own; (unfold maxLen; rw [chrs_len]; omega); (rw [chrs_len]; omega); exact HA.out.row.old.size; intro v' w2 hown hbel; have HO := Lib.hid (And.intro hown hbel); clear hown hbel)
        go_roundw
        case rel =>
          obtain ⟨ht1, ht, hl9, hc', hch⟩ := HS.out
          subst hc' hl9
          have hr := HA.out.row.more HO.out.2 HO.out.1
          rw [hch, ← chrs_snoc] at hr
          exact ⟨i + 1, _, _, by go_num, rfl, HA.out.step Ex.out Ey.out (by omega) hMM.out him hr⟩
        case measure => simp [intOf]; omega
end Go.Proofs.Ytmbbdjpnecjleaa
