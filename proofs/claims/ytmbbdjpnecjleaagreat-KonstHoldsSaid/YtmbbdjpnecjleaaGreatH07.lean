/-
 Parts: RSmall RCmp RMul.
-/
import Derived.Test.YtmbbdjpnecjleaaGreatH06
namespace Go.Proofs.YtmbbdjpnecjleaaGreat
section
set_option maxRecDepth 100000
set_option maxHeartbeats 1000000
open Go.RowKit

structure RSm (w wr : World) (a by_ more : Nat) (v : Value) (i c : Nat) (ds : List Nat) : Prop where
 row : OutB w wr v (chrs ds)
 len : ds.length = i
 dig : ∀ d ∈ ds, d < 10
 carry : c ≤ 4294967296
 sum : val 10 ds + 10 ^ i * (c + by_ * (a / 10 ^ i)) = a * by_ + more
 lim : i ≤ (decL a).length + 10
theorem RSm.step {w wr w' : World} {a by_ more : Nat} {v v' : Value} {i c x t : Nat} {ds : List Nat} (h : RSm w wr a by_ more v i c ds) (hx : x = a / 10 ^ i % 10) (ht : t = x * by_ + c)
 (hb : by_ ≤ 4294967296) (hi : i + 1 ≤ (decL a).length + 10) (hrow : OutB w w' v' (chrs (ds ++ [t % 10]))) : RSm w w' a by_ more v' (i + 1) (t / 10) (ds ++ [t % 10]) := by
 have hc := h.carry
 have hx9 : x ≤ 9 := by omega
 have hxb : x * by_ ≤ 9 * 4294967296 := Nat.mul_le_mul hx9 hb
 refine ⟨hrow, by rw [List.length_append, h.len]; rfl, ?_, by omega, ?_, hi⟩
 · intro d hd
   rcases List.mem_append.1 hd with hd | hd
   · exact h.dig d hd
   · rw [List.mem_singleton.1 hd]; exact Nat.mod_lt _ (by decide)
 · have e : c + by_ * (x + 10 * (a / 10 ^ (i + 1))) = t + 10 * (by_ * (a / 10 ^ (i + 1))) := by
    rw [Nat.mul_add, ht, Nat.mul_comm by_ x, Nat.mul_left_comm by_ 10]
    omega
   have hs := h.sum
   rw [div_pow_step a i, ← hx, e] at hs
   rw [val10_snoc, h.len, Nat.add_assoc, Nat.pow_succ, carry10, ← Nat.pow_succ]
   exact hs
theorem decL_bound (a : Nat) : a < 10 ^ (decL a).length := by
 have h := decL_out a (decL a).length (Nat.le_refl _)
 exact (Nat.div_eq_zero_iff_lt (Nat.pow_pos (by decide))).1 h
theorem RSm.bound {w wr : World} {a by_ more : Nat} {v : Value} {i c : Nat} {ds : List Nat} (h : RSm w wr a by_ more v i c ds) (hb : by_ ≤ 4294967296) (hm : more ≤ 4294967296) (hc : 0 < c) : i < (decL a).length + 10 := by
 have h1 := decL_bound a
 have hs := h.sum
 generalize (decL a).length = L at h1 ⊢
 have h2 : 10 ^ i * 1 ≤ 10 ^ i * (c + by_ * (a / 10 ^ i)) := Nat.mul_le_mul_left _ (by omega)
 rw [Nat.mul_one] at h2
 have h3 : (a + 1) * 4294967296 ≤ 10 ^ L * 4294967296 := Nat.mul_le_mul_right _ h1
 have h4 : a * by_ ≤ a * 4294967296 := Nat.mul_le_mul_left _ hb
 have h5 : 10 ^ L * 4294967296 < 10 ^ (L + 10) := by
  rw [Nat.pow_add]
  exact Nat.mul_lt_mul_of_pos_left (by decide) (Nat.pow_pos (by decide))
 exact (Nat.pow_lt_pow_iff_right (a := 10) (by decide)).1 (by omega)
theorem RSm.done {w wr : World} {a by_ more : Nat} {v : Value} {i c : Nat} {ds : List Nat} (h : RSm w wr a by_ more v i c ds) (h1 : (decL a).length ≤ i) (h3 : c = 0) : val 10 ds = a * by_ + more := by
 have hs := h.sum
 rw [decL_out a i h1, h3] at hs
 simpa using hs

theorem refSmall_any (a by_ more : Nat) (w : World) (hl : (decL a).length ≤ 10000) (hb : by_ ≤ 4294967296) (hm : more ≤ 4294967296) :
 Calls Tryz.prog 52 #[.string (dec a), .int .i64 by_, .int .i64 more] w (RetS (dec (a * by_ + more)) w) := by
 have z1 := dec_size a
 have hp1 := decL_len_pos a
 obtain ⟨la, hla⟩ : ∃ la, la = (decL a).length := ⟨_, rfl⟩
 rw [← hla] at z1 hl hp1
 have HL := Lib.hid hla; clear hla
 have HBM := Lib.hid (And.intro hb hm); clear hb hm
 go_enter Tryz.func52, Tryz.ntmps52
 go_wp2
 go_loopw [7, 8, 9] (fun v cv iv wr => ∃ (i c : Nat) (ds : List Nat), iv = .int .i64 (i : Int) ∧ cv = .int .i64 (c : Int) ∧ RSm w wr a by_ more v i c ds) (fun _ cv i _ => (la - (intOf i).toNat) * 4294967298 + (intOf cv).toNat)
 case atStart => exact ⟨0, more, [], rfl, rfl, ⟨bel_alloc (bel_refl _) _, own_empty _ _ _ _ (Nat.le_refl _)⟩, rfl, by simp, HBM.out.2, by simp [val]; rw [Nat.mul_comm, Nat.add_comm], by omega⟩
 case round =>
  obtain ⟨i, c, ds, rfl, rfl, hrel⟩ := hrel
  have HA := Lib.hid hrel; clear hrel
  have hlim := HA.out.lim
  rw [← HL.out] at hlim
  have hlen := HA.out.len
  have hcar := HA.out.carry
  by_cases hend : la ≤ i ∧ c = 0
  · obtain ⟨e1, e3⟩ := hend
    have hdone := Lib.hid (HA.out.done (by rw [← HL.out]; exact e1) e3)
    have q1 : ¬ (i : Int) < ((dec a).size : Int) := by omega
    have q3 : ¬ (0 : Int) < (c : Int) := by omega
    obtain ⟨A9, c9, hv, hr9⟩ := HA.out.row.read
    subst hv
    have R9 := Lib.hid hr9; clear hr9
    have hlo : (chrs ds).length ≤ 100000 := by rw [chrs_len]; omega
    have hlo0 : 0 < (chrs ds).length := by rw [chrs_len]; omega
    have hrv : (chrs ds).reverse = chrs ds.reverse := by simp [chrs, List.map_reverse]
    have HRV := Lib.hid hrv; clear hrv
    have g0 : (((chrs ds).length : Int) == 0) = false := beq_eq_false_iff_ne.2 (by omega)
    go_wp2_with fail
    refine (reversed_any A9 c9 (chrs ds) _ R9.out hlo0 hlo).mono ?_
    rintro e w2 ⟨rfl, hb2⟩
    rw [HRV.out]
    have HB2 := Lib.hid hb2; clear hb2
    go_wp2_with fail
    refine (refTrim_any ds.reverse _ (fun d hd => HA.out.dig d (List.mem_reverse.1 hd)) (by rw [List.length_reverse]; rwa [chrs_len] at hlo0)).mono ?_
    rintro e w3 ⟨rfl, n3, rfl⟩
    rw [show bval ds.reverse = val 10 ds by unfold bval; rw [List.reverse_reverse], hdone.out]
    go_wp2
    go_ret
    exact ⟨rfl, bel_drewN (bel_trans HA.out.row.old HB2.out) _⟩
  · have him : i < la + 10 := by
     by_cases hc0 : c = 0
     · omega
     · have := HA.out.bound HBM.out.1 HBM.out.2 (by omega)
       rwa [← HL.out] at this
    have hq : ((i : Int) < ((dec a).size : Int)) ∨ (¬ (i : Int) < ((dec a).size : Int) ∧ (0 : Int) < (c : Int)) := by omega
    obtain ⟨x, hx⟩ : ∃ x, x = a / 10 ^ i % 10 := ⟨_, rfl⟩
    have hx9 : x ≤ 9 := by omega
    have Ex := Lib.hid hx; clear hx
    have hxb : x * by_ ≤ 9 * 4294967296 := Nat.mul_le_mul hx9 HBM.out.1
    obtain ⟨t1, ht1⟩ : ∃ t1, t1 = x * by_ := ⟨_, rfl⟩
    rw [← ht1] at hxb
    obtain ⟨t, ht⟩ : ∃ t, t = t1 + c := ⟨_, rfl⟩
    obtain ⟨l, hl9⟩ : ∃ l, l = t % 10 := ⟨_, rfl⟩
    obtain ⟨c', hc'⟩ : ∃ c', c' = t / 10 := ⟨_, rfl⟩
    obtain ⟨ch, hch⟩ : ∃ ch, ch = 48 + l := ⟨_, rfl⟩
    have s1 : IntKind.i64.wrap ((x : Int) * (by_ : Int)) = (t1 : Int) := by rw [IntKind.wrap_i64, ← Int.natCast_mul, ← ht1]; omega
    have s2 : IntKind.i64.wrap ((t1 : Int) + (c : Int)) = (t : Int) := by rw [IntKind.wrap_i64]; omega
    have s3 : (t : Int) % 10 = (l : Int) := by omega
    have s3' : (t : Int).tmod 10 = (l : Int) := by rw [Int.tmod_eq_emod_of_nonneg (by omega)]; exact s3
    have s4 : (t : Int) / 10 = (c' : Int) := by omega
    have s4' : (t : Int).tdiv 10 = (c' : Int) := by rw [Int.tdiv_eq_ediv_of_nonneg (by omega)]; exact s4
    have s5 : IntKind.i64.wrap (48 + (l : Int)) = (ch : Int) := by rw [IntKind.wrap_i64]; omega
    have s6 : IntKind.u8.wrap (ch : Int) = (ch : Int) := by rw [IntKind.wrap_u8']; omega
    have s7 : IntKind.i64.wrap (c' : Int) = (c' : Int) := by rw [IntKind.wrap_i64]; omega
    have s8 : IntKind.i64.wrap (l : Int) = (l : Int) := by rw [IntKind.wrap_i64]; omega
    have hc2 : Hid (c' ≤ 4294967296 ∧ (la ≤ i → c' < c)) := by
     refine ⟨by omega, fun hh => ?_⟩
     have e := decL_out a i (by rw [← HL.out]; exact hh)
     have hx0 : x = 0 := by rw [Ex.out, e]
     rw [hx0, Nat.zero_mul] at ht1
     omega
    have HS := Lib.hid (And.intro ht1 (And.intro ht (And.intro hl9 (And.intro hc' hch)))); clear ht1 ht hl9 hc' hch hx9 hcar hxb
    rcases hq with q1 | ⟨q1, q3⟩
    all_goals
     go_wp2_with first
      | (go_at_call 92; (with_reducible refine (refAt_is a i x _ (by have := HL.out; omega) Ex.out).mono ?_); rintro e w' ⟨rfl, rfl⟩)
      | (at_builtin; refine wpList_push _ rfl _ _ 104 rfl w.heap.size 5 (.int .u8 0) 1 (by kernel_rfl) info_u8 rfl _ (chrs ds).length (nums .u8 (chrs ds)) rfl (.int .u8 (ch : Int)) rfl rfl ?_ ?_ ?_ ?_ ?_; exact HA.out.row.own; (unfold maxLen; rw [chrs_len]; omega); (rw [chrs_len]; omega); exact HA.out.row.old.size; intro v' w2 hown hbel; have HO := Lib.hid (And.intro hown hbel); clear hown hbel)
     go_roundw
     case rel =>
      obtain ⟨ht1, ht, hl9, hc', hch⟩ := HS.out
      subst hc' hl9
      have hr := HA.out.row.more HO.out.2 HO.out.1
      rw [hch, ← chrs_snoc] at hr
      exact ⟨i + 1, _, _, by go_num, rfl, HA.out.step Ex.out (by omega) HBM.out.1 (by rw [← HL.out]; omega) hr⟩
     case measure =>
      have h2 := hc2.out
      simp [intOf]
      omega

structure RSub (w wr : World) (a b : Nat) (v : Value) (i c : Nat) (ds : List Nat) : Prop where
 row : OutB w wr v (chrs ds)
 len : ds.length = i
 dig : ∀ d ∈ ds, d < 10
 carry : c ≤ 1
 sum : a % 10 ^ i + 10 ^ i * c = val 10 ds + b % 10 ^ i
 lim : i ≤ (decL a).length
theorem mod10_step (a i : Nat) : a % 10 ^ (i + 1) = a % 10 ^ i + 10 ^ i * (a / 10 ^ i % 10) := by rw [Nat.pow_succ, Nat.mod_mul]
theorem RSub.step {w wr w' : World} {a b : Nat} {v v' : Value} {i c x y l c' : Nat} {ds : List Nat} (h : RSub w wr a b v i c ds) (hx : x = a / 10 ^ i % 10) (hy : y = b / 10 ^ i % 10) (he : x + 10 * c' = l + (y + c))
 (hc' : c' ≤ 1) (hl : l < 10) (hi : i + 1 ≤ (decL a).length) (hrow : OutB w w' v' (chrs (ds ++ [l]))) : RSub w w' a b v' (i + 1) c' (ds ++ [l]) := by
 refine ⟨hrow, by rw [List.length_append, h.len]; rfl, ?_, hc', ?_, hi⟩
 · intro d hd
   rcases List.mem_append.1 hd with hd | hd
   · exact h.dig d hd
   · rw [List.mem_singleton.1 hd]; exact hl
 · rw [val10_snoc, h.len, mod10_step a i, mod10_step b i, ← hx, ← hy, Nat.pow_succ]
   exact sub_alg _ _ _ _ _ _ _ _ _ _ h.sum he
theorem RSub.done {w wr : World} {a b : Nat} {v : Value} {i c : Nat} {ds : List Nat} (h : RSub w wr a b v i c ds) (hi : i = (decL a).length) (hle : b ≤ a) : val 10 ds = a - b := by
 have hs := h.sum
 have h1 := decL_bound a
 rw [← hi] at h1
 rw [Nat.mod_eq_of_lt h1, Nat.mod_eq_of_lt (Nat.lt_of_le_of_lt hle h1)] at hs
 have h2 := val_lt (b := 10) ds h.dig
 rw [h.len] at h2
 have hc := h.carry
 generalize 10 ^ i = P at hs h1 h2
 have : c = 0 ∨ c = 1 := by omega
 rcases this with rfl | rfl <;> omega

theorem refSub_any (a b : Nat) (w : World) (hl : (decL a).length ≤ 10000) (hl' : (decL b).length ≤ 10000) (hle : b ≤ a) :
 Calls Tryz.prog 123 #[.string (dec a), .string (dec b)] w (RetS (dec (a - b)) w) := by
 have z1 := dec_size a
 have hp1 := decL_len_pos a
 obtain ⟨la, hla⟩ : ∃ la, la = (decL a).length := ⟨_, rfl⟩
 rw [← hla] at z1 hl hp1
 have HL := Lib.hid (And.intro hla (And.intro hl' hle)); clear hla hl' hle
 go_enter Tryz.func123, Tryz.ntmps123
 go_wp2
 go_loopw [5, 6, 7] (fun v cv iv wr => ∃ (i c : Nat) (ds : List Nat), iv = .int .i64 (i : Int) ∧ cv = .int .i64 (c : Int) ∧ RSub w wr a b v i c ds) (fun _ _ i _ => la - (intOf i).toNat)
 case atStart => exact ⟨0, 0, [], rfl, rfl, ⟨bel_alloc (bel_refl _) _, own_empty _ _ _ _ (Nat.le_refl _)⟩, rfl, by simp, by omega, by simp [val, Nat.mod_one], Nat.zero_le _⟩
 case round =>
  obtain ⟨i, c, ds, rfl, rfl, hrel⟩ := hrel
  have HA := Lib.hid hrel; clear hrel
  have hlim := HA.out.lim
  rw [← HL.out.1] at hlim
  have hlen := HA.out.len
  have hcar := HA.out.carry
  by_cases hlt : i < la
  · have q1 : (i : Int) < ((dec a).size : Int) := by omega
    obtain ⟨x, hx⟩ : ∃ x, x = a / 10 ^ i % 10 := ⟨_, rfl⟩
    obtain ⟨y, hy⟩ : ∃ y, y = b / 10 ^ i % 10 := ⟨_, rfl⟩
    have hx9 : x ≤ 9 := by omega
    have hy9 : y ≤ 9 := by omega
    have Ex := Lib.hid hx; clear hx
    have Ey := Lib.hid hy; clear hy
    obtain ⟨p, hp⟩ : ∃ p : Int, p = (x : Int) - (y : Int) := ⟨_, rfl⟩
    obtain ⟨q, hq⟩ : ∃ q : Int, q = p - (c : Int) := ⟨_, rfl⟩
    have s1 : IntKind.i64.wrap ((x : Int) - (y : Int)) = p := by rw [IntKind.wrap_i64]; omega
    have s2 : IntKind.i64.wrap (p - (c : Int)) = q := by rw [IntKind.wrap_i64]; omega
    by_cases hneg : q < 0
    · obtain ⟨l, hl9⟩ : ∃ l : Nat, (l : Int) = q + 10 := ⟨(q + 10).toNat, by omega⟩
      obtain ⟨ch, hch⟩ : ∃ ch, ch = 48 + l := ⟨_, rfl⟩
      have s3 : IntKind.i64.wrap (q + 10) = (l : Int) := by rw [IntKind.wrap_i64]; omega
      have s5 : IntKind.i64.wrap (48 + (l : Int)) = (ch : Int) := by rw [IntKind.wrap_i64]; omega
      have s6 : IntKind.u8.wrap (ch : Int) = (ch : Int) := by rw [IntKind.wrap_u8']; omega
      have he : x + 10 * 1 = l + (y + c) := by omega
      have hl10 : l < 10 := by omega
      have HS := Lib.hid (And.intro he (And.intro hl10 hch)); clear he hl10 hch hl9 hp hq hx9 hy9 hcar
      go_wp2_with first
       | (go_at_call 92; (with_reducible refine (refAt_is a i x _ (by have := HL.out.1; omega) Ex.out).mono ?_); rintro e w' ⟨rfl, rfl⟩)
       | (go_at_call 92; (with_reducible refine (refAt_is b i y _ (by have := HL.out.2.1; omega) Ey.out).mono ?_); rintro e w' ⟨rfl, rfl⟩)
       | (at_builtin; refine wpList_push _ rfl _ _ 104 rfl w.heap.size 5 (.int .u8 0) 1 (by kernel_rfl) info_u8 rfl _ (chrs ds).length (nums .u8 (chrs ds)) rfl (.int .u8 (ch : Int)) rfl rfl ?_ ?_ ?_ ?_ ?_; exact HA.out.row.own; (unfold maxLen; rw [chrs_len]; omega); (rw [chrs_len]; omega); exact HA.out.row.old.size; intro v' w2 hown hbel; have HO := Lib.hid (And.intro hown hbel); clear hown hbel)
      go_roundw
      case rel =>
       obtain ⟨he, hl10, hch⟩ := HS.out
       have hr := HA.out.row.more HO.out.2 HO.out.1
       rw [hch, ← chrs_snoc] at hr
       exact ⟨i + 1, 1, _, by go_num, rfl, HA.out.step Ex.out Ey.out he (Nat.le_refl _) hl10 (by rw [← HL.out.1]; omega) hr⟩
      case measure => simp [intOf]; omega
    · obtain ⟨l, hl9⟩ : ∃ l : Nat, (l : Int) = q := ⟨q.toNat, by omega⟩
      obtain ⟨ch, hch⟩ : ∃ ch, ch = 48 + l := ⟨_, rfl⟩
      have s5 : IntKind.i64.wrap (48 + (l : Int)) = (ch : Int) := by rw [IntKind.wrap_i64]; omega
      have s6 : IntKind.u8.wrap (ch : Int) = (ch : Int) := by rw [IntKind.wrap_u8']; omega
      have he : x + 10 * 0 = l + (y + c) := by omega
      have hl10 : l < 10 := by omega
      rw [← hl9] at s2
      have HS := Lib.hid (And.intro he (And.intro hl10 hch)); clear he hl10 hch hl9 hneg hq hp hx9 hy9 hcar
      go_wp2_with first
       | (go_at_call 92; (with_reducible refine (refAt_is a i x _ (by have := HL.out.1; omega) Ex.out).mono ?_); rintro e w' ⟨rfl, rfl⟩)
       | (go_at_call 92; (with_reducible refine (refAt_is b i y _ (by have := HL.out.2.1; omega) Ey.out).mono ?_); rintro e w' ⟨rfl, rfl⟩)
       | (at_builtin; refine wpList_push _ rfl _ _ 104 rfl w.heap.size 5 (.int .u8 0) 1 (by kernel_rfl) info_u8 rfl _ (chrs ds).length (nums .u8 (chrs ds)) rfl (.int .u8 (ch : Int)) rfl rfl ?_ ?_ ?_ ?_ ?_; exact HA.out.row.own; (unfold maxLen; rw [chrs_len]; omega); (rw [chrs_len]; omega); exact HA.out.row.old.size; intro v' w2 hown hbel; have HO := Lib.hid (And.intro hown hbel); clear hown hbel)
      go_roundw
      case rel =>
       obtain ⟨he, hl10, hch⟩ := HS.out
       have hr := HA.out.row.more HO.out.2 HO.out.1
       rw [hch, ← chrs_snoc] at hr
       exact ⟨i + 1, 0, _, by go_num, rfl, HA.out.step Ex.out Ey.out he (Nat.zero_le _) hl10 (by rw [← HL.out.1]; omega) hr⟩
      case measure => simp [intOf]; omega
  · have e1 : i = la := by omega
    have hdone := Lib.hid (HA.out.done (by rw [← HL.out.1]; exact e1) HL.out.2.2)
    have q1 : ¬ (i : Int) < ((dec a).size : Int) := by omega
    obtain ⟨A9, c9, hv, hr9⟩ := HA.out.row.read
    subst hv
    have R9 := Lib.hid hr9; clear hr9
    have hlo : (chrs ds).length ≤ 100000 := by rw [chrs_len]; omega
    have hlo0 : 0 < (chrs ds).length := by rw [chrs_len]; omega
    have hrv : (chrs ds).reverse = chrs ds.reverse := by simp [chrs, List.map_reverse]
    have HRV := Lib.hid hrv; clear hrv
    go_wp2_with fail
    refine (reversed_any A9 c9 (chrs ds) _ R9.out hlo0 hlo).mono ?_
    rintro e w2 ⟨rfl, hb2⟩
    rw [HRV.out]
    have HB2 := Lib.hid hb2; clear hb2
    go_wp2_with fail
    refine (refTrim_any ds.reverse _ (fun d hd => HA.out.dig d (List.mem_reverse.1 hd)) (by rw [List.length_reverse]; rwa [chrs_len] at hlo0)).mono ?_
    rintro e w3 ⟨rfl, n3, rfl⟩
    rw [show bval ds.reverse = val 10 ds by unfold bval; rw [List.reverse_reverse], hdone.out]
    go_wp2
    go_ret
    exact ⟨rfl, bel_drewN (bel_trans HA.out.row.old HB2.out) _⟩
end
end Go.Proofs.YtmbbdjpnecjleaaGreat
namespace Go.Proofs.YtmbbdjpnecjleaaGreat
section
set_option maxRecDepth 100000
set_option maxHeartbeats 1000000
open Go.RowKit

theorem decL_less {a b : Nat} (h : (decL a).length < (decL b).length) : a < b := by
 have hb : b ≠ 0 := fun e => by
  have := decL_len_pos a
  rw [e] at h
  have h1 : (decL 0).length = 1 := rfl
  omega
 have h1 := decL_bound a
 have h2 := decL_in b (decL a).length h hb
 have h3 : ¬ b < 10 ^ (decL a).length := fun hh => h2 (Nat.div_eq_of_lt hh)
 omega
theorem bval_cons (d : Nat) (r : List Nat) : bval (d :: r) = bval r + 10 ^ r.length * d := by
 unfold bval
 rw [List.reverse_cons, val_snoc, List.length_reverse]
theorem bval_lt {ds : List Nat} (h : ∀ d ∈ ds, d < 10) : bval ds < 10 ^ ds.length := by
 have := val_lt (b := 10) ds.reverse (fun d hd => h d (List.mem_reverse.1 hd))
 rwa [List.length_reverse] at this
theorem chr_lt : ∀ x y : Fin 10, (UInt8.ofNat (48 + x.val) < UInt8.ofNat (48 + y.val)) = (x.val < y.val) := by
 intro x y
 rw [eq_iff_iff]
 revert x y
 decide +kernel
theorem chr_eq : ∀ x y : Fin 10, (UInt8.ofNat (48 + x.val) == UInt8.ofNat (48 + y.val)) = decide (x.val = y.val) := by decide +kernel
theorem less_digits : ∀ (xs ys : List Nat), (∀ d ∈ xs, d < 10) → (∀ d ∈ ys, d < 10) → xs.length = ys.length → Op.bytesLess ((chrs xs).map UInt8.ofNat) ((chrs ys).map UInt8.ofNat) = decide (bval xs < bval ys)
 | [], [], _, _, _ => rfl
 | [], _ :: _, _, _, h => by simp at h
 | _ :: _, [], _, _, h => by simp at h
 | x :: r, y :: t, hx, hy, h => by
  have ih := less_digits r t (fun d hd => hx d (List.mem_cons_of_mem _ hd)) (fun d hd => hy d (List.mem_cons_of_mem _ hd)) (by simpa using h)
  have hl : r.length = t.length := by simpa using h
  have x9 := hx x (by simp)
  have y9 := hy y (by simp)
  have b1 := bval_lt (ds := r) (fun d hd => hx d (List.mem_cons_of_mem _ hd))
  have b2 := bval_lt (ds := t) (fun d hd => hy d (List.mem_cons_of_mem _ hd))
  rw [bval_cons, bval_cons, ← hl]
  rw [← hl] at b2
  have e1 := chr_lt ⟨x, x9⟩ ⟨y, y9⟩
  have e2 := chr_eq ⟨x, x9⟩ ⟨y, y9⟩
  simp only at e1 e2
  show (decide (UInt8.ofNat (48 + x) < UInt8.ofNat (48 + y)) || (UInt8.ofNat (48 + x) == UInt8.ofNat (48 + y)) && Op.bytesLess ((chrs r).map UInt8.ofNat) ((chrs t).map UInt8.ofNat)) = _
  rw [e2, ih]
  simp only [e1]
  generalize 10 ^ r.length = P at b1 b2
  rw [Bool.eq_iff_iff]
  simp only [Bool.or_eq_true, Bool.and_eq_true, decide_eq_true_eq]
  rcases Nat.lt_trichotomy x y with h1 | h1 | h1
  · have h2 : P * (x + 1) ≤ P * y := Nat.mul_le_mul_left _ h1
    rw [Nat.mul_add, Nat.mul_one] at h2
    constructor
    · intro _; omega
    · intro _; exact .inl h1
  · subst h1
    constructor
    · rintro (h | ⟨_, h⟩) <;> omega
    · intro h; exact .inr ⟨rfl, by omega⟩
  · have h2 : P * (y + 1) ≤ P * x := Nat.mul_le_mul_left _ h1
    rw [Nat.mul_add, Nat.mul_one] at h2
    constructor
    · rintro (h | ⟨h, _⟩) <;> omega
    · intro _; omega
theorem dec_list (n : Nat) : (dec n).toList = (chrs (decL n)).map UInt8.ofNat := by
 rw [ByteArray.toList_eq]
 simp [dec, bytesOf]
theorem dec_less {a b : Nat} (h : (decL a).length = (decL b).length) : Op.bytesLess (dec a).toList (dec b).toList = decide (a < b) := by
 rw [dec_list, dec_list, less_digits _ _ (decL_lt a) (decL_lt b) h, bval_decL, bval_decL]
theorem map_ofNat_inj {xs ys : List Nat} (hx : ∀ d ∈ xs, d < 10) (hy : ∀ d ∈ ys, d < 10) (h : (chrs xs).map UInt8.ofNat = (chrs ys).map UInt8.ofNat) : xs = ys := by
 have h1 := congrArg (fun l => l.map UInt8.toNat) h
 simp only [List.map_map, chrs] at h1
 have e : ∀ zs : List Nat, (∀ d ∈ zs, d < 10) → zs.map (UInt8.toNat ∘ UInt8.ofNat ∘ fun d => 48 + d) = zs.map (fun d => 48 + d) := fun zs hz => by
  apply List.map_congr_left
  intro d hd
  have := hz d hd
  simp
  omega
 rw [e xs hx, e ys hy] at h1
 exact List.map_inj_right (fun a b h => by omega) |>.1 h1
theorem dec_inj {a b : Nat} (h : (dec a).toList = (dec b).toList) : a = b := by
 rw [dec_list, dec_list] at h
 have := map_ofNat_inj (decL_lt a) (decL_lt b) h
 rw [← bval_decL a, ← bval_decL b, this]
theorem dec_beq (a b : Nat) : ((dec a).toList == (dec b).toList) = decide (a = b) := by
 rw [Bool.eq_iff_iff, beq_iff_eq, decide_eq_true_eq]
 exact ⟨dec_inj, fun h => by rw [h]⟩

theorem refCmp_any (a b : Nat) (w : World) :
 Calls Tryz.prog 20 #[.string (dec a), .string (dec b)] w (RetID (cmpI a b) w) := by
 have z1 := dec_size a
 have z2 := dec_size b
 have hless := dec_less (a := a) (b := b)
 have hl1 := decL_less (a := a) (b := b)
 have hl2 := decL_less (a := b) (b := a)
 obtain ⟨la, hla⟩ : ∃ la, la = (decL a).length := ⟨_, rfl⟩
 obtain ⟨lb, hlb⟩ : ∃ lb, lb = (decL b).length := ⟨_, rfl⟩
 rw [← hla, ← hlb] at hless hl1 hl2
 rw [← hla] at z1
 rw [← hlb] at z2
 have HL := Lib.hid (And.intro hla hlb); clear hla hlb
 by_cases h1 : la < lb
 · have e : cmpI (a : Int) (b : Int) = -1 := cmpI_lt (by have := hl1 h1; omega)
   have q1 : (((la : Int)) != (lb : Int)) = true := by simp; omega
   have q2 : (la : Int) < (lb : Int) := by omega
   rw [e]
   clear hless hl1 hl2
   go_enter Tryz.func20, Tryz.ntmps20
   go_wp2
   go_ret
   exact ⟨rfl, 0, rfl⟩
 by_cases h2 : lb < la
 · have e : cmpI (a : Int) (b : Int) = 1 := cmpI_gt (by have := hl2 h2; omega)
   have q1 : (((la : Int)) != (lb : Int)) = true := by simp; omega
   have q2 : ¬ (la : Int) < (lb : Int) := by omega
   rw [e]
   clear hless hl1 hl2
   go_enter Tryz.func20, Tryz.ntmps20
   go_wp2
   go_ret
   exact ⟨rfl, 0, rfl⟩
 have hle := hless (by omega)
 have heq := dec_beq a b
 have q1 : (((la : Int)) != (lb : Int)) = false := by simp; omega
 clear hless hl1 hl2
 rcases Nat.lt_trichotomy a b with h | h | h
 · rw [decide_eq_true h] at hle
   rw [cmpI_lt (by omega)]
   clear h heq
   go_enter Tryz.func20, Tryz.ntmps20
   go_wp2
   go_ret
   exact ⟨rfl, 0, rfl⟩
 · rw [decide_eq_false (by omega)] at hle
   rw [decide_eq_true h] at heq
   rw [cmpI_eq (by omega)]
   clear h
   go_enter Tryz.func20, Tryz.ntmps20
   go_wp2
   go_ret
   exact ⟨rfl, 0, rfl⟩
 · rw [decide_eq_false (by omega)] at hle
   rw [decide_eq_false (by omega)] at heq
   rw [cmpI_gt (by omega)]
   clear h
   go_enter Tryz.func20, Tryz.ntmps20
   go_wp2
   go_ret
   exact ⟨rfl, 0, rfl⟩
end
end Go.Proofs.YtmbbdjpnecjleaaGreat
namespace Go.Proofs.YtmbbdjpnecjleaaGreat
section
set_option maxRecDepth 100000
set_option maxHeartbeats 1000000
open Go.RowKit

theorem decL_len_le {n k : Nat} (h : n < 10 ^ k) (hk : 1 ≤ k) : (decL n).length ≤ k := by
 by_cases h0 : n = 0
 · subst h0; exact hk
 · rw [decL_pos h0, List.length_reverse]
   exact (digs_len_le (by decide)).2 h
theorem bytesOf_append (xs ys : List Nat) : bytesOf xs ++ bytesOf ys = bytesOf (xs ++ ys) := by
 apply ByteArray.ext
 rw [ByteArray.data_append]
 simp [bytesOf]
theorem dec_snoc (n d : Nat) : dec n ++ bytesOf [48 + d] = bytesOf (chrs (decL n ++ [d])) := by
 unfold dec
 rw [bytesOf_append, chrs_snoc]
theorem pre_succ (b : Nat) {i : Nat} (h : i < (decL b).length) : bval ((decL b).take (i + 1)) = (decL b).getD i 0 + 10 * bval ((decL b).take i) := by
 rw [List.take_succ_eq_append_getElem h, bval_snoc, List.getD_eq_getElem?_getD, List.getElem?_eq_getElem h]
 rfl
theorem pre_lt (b i : Nat) : bval ((decL b).take i) < 10 ^ i := by
 have h := bval_lt (ds := (decL b).take i) (fun d hd => decL_lt b d (List.mem_of_mem_take hd))
 exact Nat.lt_of_lt_of_le h (Nat.pow_le_pow_right (by decide) (List.length_take_le ..))
theorem dec_byte (n : Nat) {i : Nat} (h : i < (dec n).size) : ((dec n)[i]'h).toNat = 48 + (decL n).getD i 0 :=
 (bytesOf_get (chrs (decL n)) (chrs_lt (decL_lt n)) h).trans (chrs_get _ (by rw [← dec_size]; exact h))
theorem decL_digit (n i : Nat) : (decL n).getD i 0 < 10 := by
 by_cases h : i < (decL n).length
 · rw [List.getD_eq_getElem?_getD, List.getElem?_eq_getElem h]
   exact decL_lt n _ (List.getElem_mem h)
 · rw [List.getD_eq_getElem?_getD, List.getElem?_eq_none (by omega)]
   decide

theorem refSmall_lit (a by_ more : Nat) (B M : Int) (hB : B = (by_ : Int)) (hM : M = (more : Int)) (w : World) (hl : (decL a).length ≤ 10000) (hb : by_ ≤ 4294967296) (hm : more ≤ 4294967296) :
 Calls Tryz.prog 52 #[.string (dec a), .int .i64 B, .int .i64 M] w (RetS (dec (a * by_ + more)) w) := by
 subst hB hM
 exact refSmall_any a by_ more w hl hb hm

theorem refMul_any (a b : Nat) (w : World) (hl : (decL a).length ≤ 1000) (hl' : (decL b).length ≤ 1000) :
 Calls Tryz.prog 120 #[.string (dec a), .string (dec b)] w (RetS (dec (a * b)) w) := by
 have HL := Lib.hid (And.intro hl hl')
 have z2 := dec_size b
 obtain ⟨lb, hlb⟩ : ∃ lb, lb = (decL b).length := ⟨_, rfl⟩
 rw [← hlb] at z2 hl'
 have HLB := Lib.hid hlb; clear hlb hl
 go_enter Tryz.func120, Tryz.ntmps120
 go_wp2
 go_loopw [5, 6] (fun v iv wr => ∃ i : Nat, iv = .int .i64 (i : Int) ∧ i ≤ lb ∧ v = .string (dec (a * bval ((decL b).take i))) ∧ Below w.heap.size w wr) (fun _ i _ => lb - (intOf i).toNat)
 case atStart => exact ⟨0, rfl, Nat.zero_le _, by rw [List.take_zero]; rfl, bel_refl _⟩
 case round =>
  obtain ⟨i, rfl, hi, rfl, hb⟩ := hrel
  have HB := Lib.hid hb; clear hb
  by_cases hlt : i < lb
  · have hlt' : (i : Int) < ((dec b).size : Int) := by omega
    have hi0 : (0 : Int) ≤ (i : Int) := by omega
    have hby := dec_byte b (i := i) (by omega)
    have hd10 := decL_digit b i
    obtain ⟨d, hd⟩ : ∃ d, d = (decL b).getD i 0 := ⟨_, rfl⟩
    rw [← hd] at hby hd10
    have HD := Lib.hid hd; clear hd
    obtain ⟨P, hP⟩ : ∃ P, P = bval ((decL b).take i) := ⟨_, rfl⟩
    have hP2 := pre_lt b i
    rw [← hP] at hP2 ⊢
    have HP := Lib.hid hP; clear hP
    obtain ⟨N, hN⟩ : ∃ N, N = a * P := ⟨_, rfl⟩
    have hN2 : N < 10 ^ ((decL a).length + i) := by
     rw [hN, Nat.pow_add]
     exact Nat.mul_lt_mul'' (decL_bound a) hP2
    rw [← hN]
    have hNl : (decL N).length ≤ 2000 := by
     have h1 := decL_len_pos a
     have h2 := decL_len_le hN2 (by omega)
     have h3 := HL.out.1
     omega
    have hN3 : (decL (10 * N)).length ≤ 2001 := Nat.le_trans (decL_len_le (k := (decL N).length + 1) (by
     have h2 : 10 * N < 10 * 10 ^ (decL N).length := Nat.mul_lt_mul_of_pos_left (decL_bound N) (by decide)
     rwa [Nat.mul_comm 10 (10 ^ _), ← Nat.pow_succ] at h2) (by omega)) (by omega)
    have had : (decL (a * d)).length ≤ 1001 := Nat.le_trans (decL_len_le (k := (decL a).length + 1) (by
     have h1 := decL_bound a
     have h2 : a * d ≤ a * 10 := Nat.mul_le_mul_left _ (by omega)
     rw [Nat.pow_succ]
     omega) (by omega)) (by have := HL.out.1; omega)
    have hsz : (dec N).size + 1 ≤ 9223372036854775807 := by rw [dec_size]; omega
    have hsz2 : ¬ 9223372036854775807 ≤ (dec N).size := by omega
    have hsz3 : ¬ 9223372036854775807 < (dec N).size + 1 := by omega
    have hcat : dec N ++ ⟨#[48]⟩ = bytesOf (chrs (decL N ++ [0])) := dec_snoc N 0
    have HCAT := Lib.hid hcat; clear hcat
    have g1 : IntKind.u8.wrap ((((dec b)[i]'(by omega)).toNat : Int) - 48) = (d : Int) := by rw [hby, IntKind.wrap_u8']; omega
    have g2 : IntKind.i64.wrap (d : Int) = (d : Int) := by rw [IntKind.wrap_i64]; omega
    have HX := Lib.hid (And.intro hN3 (And.intro had (And.intro hNl (And.intro hN hd10)))); clear hN3 had hNl hN hby hN2 hP2
    clear hd10
    go_wp2
    go_region_held3 (fun _ => True) (first | trivial)
     (first
      | (go_at_call 93; rw [HCAT.out]; (with_reducible refine (refTrim_any (decL N ++ [0]) _ ?_ ?_).mono ?_); (intro x hx; rcases List.mem_append.1 hx with hx | hx; exact decL_lt N x hx; (rw [List.mem_singleton.1 hx]; decide)); simp; rintro e w12 ⟨rfl, n12, rfl⟩; rw [bval_snoc, bval_decL, Nat.zero_add])
      | (go_at_call 52; (with_reducible refine (refSmall_lit a d 0 (d : Int) 0 rfl rfl _ ?_ ?_ ?_).mono ?_); (have := HL.out.1; omega); (have := HX.out.2.2.2.2; omega); omega; rintro e w13 ⟨rfl, hb13⟩; have HB13 := Lib.hid hb13; clear hb13)
      | (go_at_call 121; (with_reducible refine (refAdd_any (10 * N) (a * d) _ ?_ ?_).mono ?_); (have := HX.out.1; omega); (have := HX.out.2.1; omega); rintro e w14 ⟨rfl, hb14⟩; have HB14 := Lib.hid hb14; clear hb14))
    all_goals
     go_wp2
     go_roundw
     case rel =>
      refine ⟨i + 1, by go_num, by omega, ?_, ?_⟩
      · rw [pre_succ b (by rw [← HLB.out]; exact hlt), ← HD.out, ← HP.out, HX.out.2.2.2.1, Nat.mul_add, Nat.mul_left_comm a 10, Nat.add_comm]
      · exact bel_trans (bel_trans HB.out (bel_trans (bel_drewN (bel_refl _) _) HB13.out)) HB14.out
     case measure => simp [intOf]; omega
  · have hil : i = lb := by omega
    have HE : Hid (bval ((decL b).take i) = b) := by
     show _ = b
     rw [hil, HLB.out, List.take_length, bval_decL]
    rw [HE.out]
    go_wp2
    go_ret
    exact ⟨rfl, HB.out⟩
end
end Go.Proofs.YtmbbdjpnecjleaaGreat
