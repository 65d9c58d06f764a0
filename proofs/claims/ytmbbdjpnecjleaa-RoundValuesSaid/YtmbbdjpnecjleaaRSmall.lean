/-
  The reference's Small, Sub, walked.
-/
import Derived.Test.YtmbbdjpnecjleaaRAdd
namespace Go.Proofs.Ytmbbdjpnecjleaa
set_option maxRecDepth 100000
open Go.RowKit

structure RSm (w wr : World) (a by_ more : Nat) (v : Value) (i c : Nat) (ds : List Nat) : Prop where
  row : OutB w wr v (chrs ds)
  len : ds.length = i
  dig : ∀ d ∈ ds, d < 10
  carry : c ≤ 4294967296
  sum : val 10 ds + 10 ^ i * (c + by_ * (a / 10 ^ i)) = a * by_ + more
  lim : i ≤ (decL a).length + 10
theorem RSm.step {w wr w' : World} {a by_ more : Nat} {v v' : Value} {i c x t : Nat} {ds : List Nat} (h : RSm w wr a by_ more v i c ds) (hx : x = a / 10 ^ i % 10) (ht : t = x * by_ + c)
    (hb : by_ ≤ 4294967296) (hi : i + 1 ≤ (decL a).length + 10) (hrow : OutB w w' v' (chrs (ds ++ [t % 10]))) : RSm w w' a by_ more v' (i + 1) (t / 10) (ds ++ [t % 10]) := by
  have hc := h.carry
  have hx9 : x ≤ 9 := by omega
  have hxb : x * by_ ≤ 9 * 4294967296 := Nat.mul_le_mul hx9 hb
  refine ⟨hrow, by rw [List.length_append, h.len]; rfl, ?_, by omega, ?_, hi⟩
  · intro d hd
    rcases List.mem_append.1 hd with hd | hd
    · exact h.dig d hd
    · rw [List.mem_singleton.1 hd]; exact Nat.mod_lt _ (by decide)
  · have e : c + by_ * (x + 10 * (a / 10 ^ (i + 1))) = t + 10 * (by_ * (a / 10 ^ (i + 1))) := by
      rw [Nat.mul_add, ht, Nat.mul_comm by_ x, Nat.mul_left_comm by_ 10]
      omega
    have hs := h.sum
    rw [div_pow_step a i, ← hx, e] at hs
    rw [val10_snoc, h.len, Nat.add_assoc, Nat.pow_succ, carry10, ← Nat.pow_succ]
    exact hs
theorem decL_bound (a : Nat) : a < 10 ^ (decL a).length := by
  have h := decL_out a (decL a).length (Nat.le_refl _)
  exact (Nat.div_eq_zero_iff_lt (Nat.pow_pos (by decide))).1 h
theorem RSm.bound {w wr : World} {a by_ more : Nat} {v : Value} {i c : Nat} {ds : List Nat} (h : RSm w wr a by_ more v i c ds) (hb : by_ ≤ 4294967296) (hm : more ≤ 4294967296) (hc : 0 < c) : i < (decL a).length + 10 := by
  have h1 := decL_bound a
  have hs := h.sum
  generalize (decL a).length = L at h1 ⊢
  have h2 : 10 ^ i * 1 ≤ 10 ^ i * (c + by_ * (a / 10 ^ i)) := Nat.mul_le_mul_left _ (by omega)
  rw [Nat.mul_one] at h2
  have h3 : (a + 1) * 4294967296 ≤ 10 ^ L * 4294967296 := Nat.mul_le_mul_right _ h1
  have h4 : a * by_ ≤ a * 4294967296 := Nat.mul_le_mul_left _ hb
  have h5 : 10 ^ L * 4294967296 < 10 ^ (L + 10) := by
    rw [Nat.pow_add]
    exact Nat.mul_lt_mul_of_pos_left (by decide) (Nat.pow_pos (by decide))
  exact (Nat.pow_lt_pow_iff_right (a := 10) (by decide)).1 (by omega)
theorem RSm.done {w wr : World} {a by_ more : Nat} {v : Value} {i c : Nat} {ds : List Nat} (h : RSm w wr a by_ more v i c ds) (h1 : (decL a).length ≤ i) (h3 : c = 0) : val 10 ds = a * by_ + more := by
  have hs := h.sum
  rw [decL_out a i h1, h3] at hs
  simpa using hs

set_option maxRecDepth 100000 in
set_option maxHeartbeats 1000000 in
theorem refSmall_any (a by_ more : Nat) (w : World) (hl : (decL a).length ≤ 10000) (hb : by_ ≤ 4294967296) (hm : more ≤ 4294967296) :
    Calls Try.prog 55 #[.string (dec a), .int .i64 by_, .int .i64 more] w (RetS (dec (a * by_ + more)) w) := by
  have z1 := dec_size a
  have hp1 := decL_len_pos a
  obtain ⟨la, hla⟩ : ∃ la, la = (decL a).length := ⟨_, rfl⟩
  rw [← hla] at z1 hl hp1
  have HL := Lib.hid hla; clear hla
  have HBM := Lib.hid (And.intro hb hm); clear hb hm
  go_enter Try.func55, Try.ntmps55
  go_wp2
  go_loopw [7, 8, 9] (fun v cv iv wr => ∃ (i c : Nat) (ds : List Nat), iv = .int .i64 (i : Int) ∧ cv = .int .i64 (c : Int) ∧ RSm w wr a by_ more v i c ds) (fun _ cv i _ => (la - (intOf i).toNat) * 4294967298 + (intOf cv).toNat)
  case atStart => exact ⟨0, more, [], rfl, rfl, ⟨bel_alloc (bel_refl _) _, own_empty _ _ _ _ (Nat.le_refl _)⟩, rfl, by simp, HBM.out.2, by simp [val]; rw [Nat.mul_comm, Nat.add_comm], by omega⟩
  case round =>
    obtain ⟨i, c, ds, rfl, rfl, hrel⟩ := hrel
    have HA := Lib.hid hrel; clear hrel
    have hlim := HA.out.lim
    rw [← HL.out] at hlim
    have hlen := HA.out.len
    have hcar := HA.out.carry
    by_cases hend : la ≤ i ∧ c = 0
    · obtain ⟨e1, e3⟩ := hend
      have hdone := Lib.hid (HA.out.done (by rw [← HL.out]; exact e1) e3)
      have q1 : ¬ (i : Int) < ((dec a).size : Int) := by omega
      have q3 : ¬ (0 : Int) < (c : Int) := by omega
      obtain ⟨A9, c9, hv, hr9⟩ := HA.out.row.read
      subst hv
      have R9 := Lib.hid hr9; clear hr9
      have hlo : (chrs ds).length ≤ 100000 := by rw [chrs_len]; omega
      have hlo0 : 0 < (chrs ds).length := by rw [chrs_len]; omega
      have hrv : (chrs ds).reverse = chrs ds.reverse := by simp [chrs, List.map_reverse]
      have HRV := Lib.hid hrv; clear hrv
      have g0 : (((chrs ds).length : Int) == 0) = false := beq_eq_false_iff_ne.2 (by omega)
      go_wp2_with fail
      refine (reversed_any A9 c9 (chrs ds) _ R9.out hlo0 hlo).mono ?_
      rintro e w2 ⟨rfl, hb2⟩
      rw [HRV.out]
      have HB2 := Lib.hid hb2; clear hb2
      go_wp2_with fail
      refine (refTrim_any ds.reverse _ (fun d hd => HA.out.dig d (List.mem_reverse.1 hd)) (by rw [List.length_reverse]; rwa [chrs_len] at hlo0)).mono ?_
      rintro e w3 ⟨rfl, n3, rfl⟩
      rw [show bval ds.reverse = val 10 ds by unfold bval; rw [List.reverse_reverse], hdone.out]
      go_wp2
      go_ret
      exact ⟨rfl, bel_drewN (bel_trans HA.out.row.old HB2.out) _⟩
    · have him : i < la + 10 := by
        by_cases hc0 : c = 0
        · omega
        · have := HA.out.bound HBM.out.1 HBM.out.2 (by omega)
          rwa [← HL.out] at this
      have hq : ((i : Int) < ((dec a).size : Int)) ∨ (¬ (i : Int) < ((dec a).size : Int) ∧ (0 : Int) < (c : Int)) := by omega
      obtain ⟨x, hx⟩ : ∃ x, x = a / 10 ^ i % 10 := ⟨_, rfl⟩
      have hx9 : x ≤ 9 := by omega
      have Ex := Lib.hid hx; clear hx
      have hxb : x * by_ ≤ 9 * 4294967296 := Nat.mul_le_mul hx9 HBM.out.1
      obtain ⟨t1, ht1⟩ : ∃ t1, t1 = x * by_ := ⟨_, rfl⟩
      rw [← ht1] at hxb
      obtain ⟨t, ht⟩ : ∃ t, t = t1 + c := ⟨_, rfl⟩
      obtain ⟨l, hl9⟩ : ∃ l, l = t % 10 := ⟨_, rfl⟩
      obtain ⟨c', hc'⟩ : ∃ c', c' = t / 10 := ⟨_, rfl⟩
      obtain ⟨ch, hch⟩ : ∃ ch, ch = 48 + l := ⟨_, rfl⟩
      have s1 : IntKind.i64.wrap ((x : Int) * (by_ : Int)) = (t1 : Int) := by rw [IntKind.wrap_i64, ← Int.natCast_mul, ← ht1]; omega
      have s2 : IntKind.i64.wrap ((t1 : Int) + (c : Int)) = (t : Int) := by rw [IntKind.wrap_i64]; omega
      have s3 : (t : Int) % 10 = (l : Int) := by omega
      have s3' : (t : Int).tmod 10 = (l : Int) := by rw [Int.tmod_eq_emod_of_nonneg (by omega)]; exact s3
      have s4 : (t : Int) / 10 = (c' : Int) := by omega
      have s4' : (t : Int).tdiv 10 = (c' : Int) := by rw [Int.tdiv_eq_ediv_of_nonneg (by omega)]; exact s4
      have s5 : IntKind.i64.wrap (48 + (l : Int)) = (ch : Int) := by rw [IntKind.wrap_i64]; omega
      have s6 : IntKind.u8.wrap (ch : Int) = (ch : Int) := by rw [IntKind.wrap_u8']; omega
      have s7 : IntKind.i64.wrap (c' : Int) = (c' : Int) := by rw [IntKind.wrap_i64]; omega
      have s8 : IntKind.i64.wrap (l : Int) = (l : Int) := by rw [IntKind.wrap_i64]; omega
      have hc2 : Hid (c' ≤ 4294967296 ∧ (la ≤ i → c' < c)) := by
        refine ⟨by omega, fun hh => ?_⟩
        have e := decL_out a i (by rw [← HL.out]; exact hh)
        have hx0 : x = 0 := by rw [Ex.out, e]
        rw [hx0, Nat.zero_mul] at ht1
        omega
      have HS := Lib.hid (And.intro ht1 (And.intro ht (And.intro hl9 (And.intro hc' hch)))); clear ht1 ht hl9 hc' hch hx9 hcar hxb
      rcases hq with q1 | ⟨q1, q3⟩
      all_goals
        go_wp2_with first
          | (go_at_call 86; (with_reducible refine (refAt_is a i x _ (by have := HL.out; omega) Ex.out).mono ?_); rintro e w' ⟨rfl, rfl⟩)
          | (at_builtin; refine wpList_push _ rfl _ _ 100 rfl w.heap.size 5 (.int .u8 0) 1 (by kernel_rfl) info_u8 rfl _ (chrs ds).length (nums .u8 (chrs ds)) rfl (.int .u8 (ch : Int)) rfl rfl ?_ ?_ ?_ ?_ ?_; exact HA.out.row.own; (unfold maxLen; rw [chrs_len]; omega); (rw [chrs_len]; omega); exact HA.out.row.old.size; intro v' w2 hown hbel; have HO := Lib.hid (And.intro hown hbel); clear hown hbel)
        go_roundw
        case rel =>
          obtain ⟨ht1, ht, hl9, hc', hch⟩ := HS.out
          subst hc' hl9
          have hr := HA.out.row.more HO.out.2 HO.out.1
          rw [hch, ← chrs_snoc] at hr
          exact ⟨i + 1, _, _, by go_num, rfl, HA.out.step Ex.out (by omega) HBM.out.1 (by rw [← HL.out]; omega) hr⟩
        case measure =>
          have h2 := hc2.out
          simp [intOf]
          omega

structure RSub (w wr : World) (a b : Nat) (v : Value) (i c : Nat) (ds : List Nat) : Prop where
  row : OutB w wr v (chrs ds)
  len : ds.length = i
  dig : ∀ d ∈ ds, d < 10
  carry : c ≤ 1
  sum : a % 10 ^ i + 10 ^ i * c = val 10 ds + b % 10 ^ i
  lim : i ≤ (decL a).length
theorem mod10_step (a i : Nat) : a % 10 ^ (i + 1) = a % 10 ^ i + 10 ^ i * (a / 10 ^ i % 10) := by rw [Nat.pow_succ, Nat.mod_mul]
theorem RSub.step {w wr w' : World} {a b : Nat} {v v' : Value} {i c x y l c' : Nat} {ds : List Nat} (h : RSub w wr a b v i c ds) (hx : x = a / 10 ^ i % 10) (hy : y = b / 10 ^ i % 10) (he : x + 10 * c' = l + (y + c))
    (hc' : c' ≤ 1) (hl : l < 10) (hi : i + 1 ≤ (decL a).length) (hrow : OutB w w' v' (chrs (ds ++ [l]))) : RSub w w' a b v' (i + 1) c' (ds ++ [l]) := by
  refine ⟨hrow, by rw [List.length_append, h.len]; rfl, ?_, hc', ?_, hi⟩
  · intro d hd
    rcases List.mem_append.1 hd with hd | hd
    · exact h.dig d hd
    · rw [List.mem_singleton.1 hd]; exact hl
  · rw [val10_snoc, h.len, mod10_step a i, mod10_step b i, ← hx, ← hy, Nat.pow_succ]
    exact sub_alg _ _ _ _ _ _ _ _ _ _ h.sum he
theorem RSub.done {w wr : World} {a b : Nat} {v : Value} {i c : Nat} {ds : List Nat} (h : RSub w wr a b v i c ds) (hi : i = (decL a).length) (hle : b ≤ a) : val 10 ds = a - b := by
  have hs := h.sum
  have h1 := decL_bound a
  rw [← hi] at h1
  rw [Nat.mod_eq_of_lt h1, Nat.mod_eq_of_lt (Nat.lt_of_le_of_lt hle h1)] at hs
  have h2 := val_lt (b := 10) ds h.dig
  rw [h.len] at h2
  have hc := h.carry
  generalize 10 ^ i = P at hs h1 h2
  have : c = 0 ∨ c = 1 := by omega
  rcases this with rfl | rfl <;> omega

set_option maxRecDepth 100000 in
set_option maxHeartbeats 1000000 in
theorem refSub_any (a b : Nat) (w : World) (hl : (decL a).length ≤ 10000) (hl' : (decL b).length ≤ 10000) (hle : b ≤ a) :
    Calls Try.prog 68 #[.string (dec a), .string (dec b)] w (RetS (dec (a - b)) w) := by
  have z1 := dec_size a
  have hp1 := decL_len_pos a
  obtain ⟨la, hla⟩ : ∃ la, la = (decL a).length := ⟨_, rfl⟩
  rw [← hla] at z1 hl hp1
  have HL := Lib.hid (And.intro hla (And.intro hl' hle)); clear hla hl' hle
  go_enter Try.func68, Try.ntmps68
  go_wp2
  go_loopw [5, 6, 7] (fun v cv iv wr => ∃ (i c : Nat) (ds : List Nat), iv = .int .i64 (i : Int) ∧ cv = .int .i64 (c : Int) ∧ RSub w wr a b v i c ds) (fun _ _ i _ => la - (intOf i).toNat)
  case atStart => exact ⟨0, 0, [], rfl, rfl, ⟨bel_alloc (bel_refl _) _, own_empty _ _ _ _ (Nat.le_refl _)⟩, rfl, by simp, by omega, by simp [val, Nat.mod_one], Nat.zero_le _⟩
  case round =>
    obtain ⟨i, c, ds, rfl, rfl, hrel⟩ := hrel
    have HA := Lib.hid hrel; clear hrel
    have hlim := HA.out.lim
    rw [← HL.out.1] at hlim
    have hlen := HA.out.len
    have hcar := HA.out.carry
    by_cases hlt : i < la
    · have q1 : (i : Int) < ((dec a).size : Int) := by omega
      obtain ⟨x, hx⟩ : ∃ x, x = a / 10 ^ i % 10 := ⟨_, rfl⟩
      obtain ⟨y, hy⟩ : ∃ y, y = b / 10 ^ i % 10 := ⟨_, rfl⟩
      have hx9 : x ≤ 9 := by omega
      have hy9 : y ≤ 9 := by omega
      have Ex := Lib.hid hx; clear hx
      have Ey := Lib.hid hy; clear hy
      obtain ⟨p, hp⟩ : ∃ p : Int, p = (x : Int) - (y : Int) := ⟨_, rfl⟩
      obtain ⟨q, hq⟩ : ∃ q : Int, q = p - (c : Int) := ⟨_, rfl⟩
      have s1 : IntKind.i64.wrap ((x : Int) - (y : Int)) = p := by rw [IntKind.wrap_i64]; omega
      have s2 : IntKind.i64.wrap (p - (c : Int)) = q := by rw [IntKind.wrap_i64]; omega
      by_cases hneg : q < 0
      · obtain ⟨l, hl9⟩ : ∃ l : Nat, (l : Int) = q + 10 := ⟨(q + 10).toNat, by omega⟩
        obtain ⟨ch, hch⟩ : ∃ ch, ch = 48 + l := ⟨_, rfl⟩
        have s3 : IntKind.i64.wrap (q + 10) = (l : Int) := by rw [IntKind.wrap_i64]; omega
        have s5 : IntKind.i64.wrap (48 + (l : Int)) = (ch : Int) := by rw [IntKind.wrap_i64]; omega
        have s6 : IntKind.u8.wrap (ch : Int) = (ch : Int) := by rw [IntKind.wrap_u8']; omega
        have he : x + 10 * 1 = l + (y + c) := by omega
        have hl10 : l < 10 := by omega
        have HS := Lib.hid (And.intro he (And.intro hl10 hch)); clear he hl10 hch hl9 hp hq hx9 hy9 hcar
        go_wp2_with first
          | (go_at_call 86; (with_reducible refine (refAt_is a i x _ (by have := HL.out.1; omega) Ex.out).mono ?_); rintro e w' ⟨rfl, rfl⟩)
          | (go_at_call 86; (with_reducible refine (refAt_is b i y _ (by have := HL.out.2.1; omega) Ey.out).mono ?_); rintro e w' ⟨rfl, rfl⟩)
          | (at_builtin; refine wpList_push _ rfl _ _ 100 rfl w.heap.size 5 (.int .u8 0) 1 (by kernel_rfl) info_u8 rfl _ (chrs ds).length (nums .u8 (chrs ds)) rfl (.int .u8 (ch : Int)) rfl rfl ?_ ?_ ?_ ?_ ?_; exact HA.out.row.own; (unfold maxLen; rw [chrs_len]; omega); (rw [chrs_len]; omega); exact HA.out.row.old.size; intro v' w2 hown hbel; have HO := Lib.hid (And.intro hown hbel); clear hown hbel)
        go_roundw
        case rel =>
          obtain ⟨he, hl10, hch⟩ := HS.out
          have hr := HA.out.row.more HO.out.2 HO.out.1
          rw [hch, ← chrs_snoc] at hr
          exact ⟨i + 1, 1, _, by go_num, rfl, HA.out.step Ex.out Ey.out he (Nat.le_refl _) hl10 (by rw [← HL.out.1]; omega) hr⟩
        case measure => simp [intOf]; omega
      · obtain ⟨l, hl9⟩ : ∃ l : Nat, (l : Int) = q := ⟨q.toNat, by omega⟩
        obtain ⟨ch, hch⟩ : ∃ ch, ch = 48 + l := ⟨_, rfl⟩
        have s5 : IntKind.i64.wrap (48 + (l : Int)) = (ch : Int) := by rw [IntKind.wrap_i64]; omega
        have s6 : IntKind.u8.wrap (ch : Int) = (ch : Int) := by rw [IntKind.wrap_u8']; omega
        have he : x + 10 * 0 = l + (y + c) := by omega
        have hl10 : l < 10 := by omega
        rw [← hl9] at s2
        have HS := Lib.hid (And.intro he (And.intro hl10 hch)); clear he hl10 hch hl9 hneg hq hp hx9 hy9 hcar
        go_wp2_with first
          | (go_at_call 86; (with_reducible refine (refAt_is a i x _ (by have := HL.out.1; omega) Ex.out).mono ?_); rintro e w' ⟨rfl, rfl⟩)
          | (go_at_call 86; (with_reducible refine (refAt_is b i y _ (by have := HL.out.2.1; omega) Ey.out).mono ?_); rintro e w' ⟨rfl, rfl⟩)
          | (at_builtin; refine wpList_push _ rfl _ _ 100 rfl w.heap.size 5 (.int .u8 0) 1 (by kernel_rfl) info_u8 rfl _ (chrs ds).length (nums .u8 (chrs ds)) rfl (.int .u8 (ch : Int)) rfl rfl ?_ ?_ ?_ ?_ ?_; exact HA.out.row.own; (unfold maxLen; rw [chrs_len]; omega); (rw [chrs_len]; omega); exact HA.out.row.old.size; intro v' w2 hown hbel; have HO := Lib.hid (And.intro hown hbel); clear hown hbel)
        go_roundw
        case rel =>
          obtain ⟨he, hl10, hch⟩ := HS.out
          have hr := HA.out.row.more HO.out.2 HO.out.1
          rw [hch, ← chrs_snoc] at hr
          exact ⟨i + 1, 0, _, by go_num, rfl, HA.out.step Ex.out Ey.out he (Nat.zero_le _) hl10 (by rw [← HL.out.1]; omega) hr⟩
        case measure => simp [intOf]; omega
    · have e1 : i = la := by omega
      have hdone := Lib.hid (HA.out.done (by rw [← HL.out.1]; exact e1) HL.out.2.2)
      have q1 : ¬ (i : Int) < ((dec a).size : Int) := by omega
      obtain ⟨A9, c9, hv, hr9⟩ := HA.out.row.read
      subst hv
      have R9 := Lib.hid hr9; clear hr9
      have hlo : (chrs ds).length ≤ 100000 := by rw [chrs_len]; omega
      have hlo0 : 0 < (chrs ds).length := by rw [chrs_len]; omega
      have hrv : (chrs ds).reverse = chrs ds.reverse := by simp [chrs, List.map_reverse]
      have HRV := Lib.hid hrv; clear hrv
      go_wp2_with fail
      refine (reversed_any A9 c9 (chrs ds) _ R9.out hlo0 hlo).mono ?_
      rintro e w2 ⟨rfl, hb2⟩
      rw [HRV.out]
      have HB2 := Lib.hid hb2; clear hb2
      go_wp2_with fail
      refine (refTrim_any ds.reverse _ (fun d hd => HA.out.dig d (List.mem_reverse.1 hd)) (by rw [List.length_reverse]; rwa [chrs_len] at hlo0)).mono ?_
      rintro e w3 ⟨rfl, n3, rfl⟩
      rw [show bval ds.reverse = val 10 ds by unfold bval; rw [List.reverse_reverse], hdone.out]
      go_wp2
      go_ret
      exact ⟨rfl, bel_drewN (bel_trans HA.out.row.old HB2.out) _⟩
end Go.Proofs.Ytmbbdjpnecjleaa
