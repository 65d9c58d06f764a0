/-
  Div, walked.
-/
import Derived.Test.YtmbbdjpnecjleaaNMul
import Derived.RegionTactic
namespace Go.Proofs.Ytmbbdjpnecjleaa
set_option maxRecDepth 100000
open Go.RowKit

theorem B32_pow (j : Nat) : B32 ^ j = 2 ^ (32 * j) := by
  rw [Nat.pow_mul]; rfl
theorem lval_div {xs : List Nat} (h : Lim xs) (j : Nat) : lval xs / B32 ^ j = lval (xs.drop j) := by
  have e : lval xs = lval (xs.take j) + B32 ^ j * lval (xs.drop j) := by
    by_cases hj : j ≤ xs.length
    · conv => lhs; rw [← List.take_append_drop j xs]
      unfold lval
      rw [val_app, List.length_take, Nat.min_eq_left hj]
    · rw [List.take_of_length_le (by omega), List.drop_of_length_le (by omega)]
      simp [lval, val]
  have hlt : lval (xs.take j) < B32 ^ j := Nat.lt_of_lt_of_le (lval_lt fun x hx => h x (List.mem_of_mem_take hx)) (Nat.pow_le_pow_right (by decide) (List.length_take_le ..))
  rw [e, Nat.add_mul_div_left _ _ (Nat.pow_pos (by decide)), Nat.div_eq_of_lt hlt, Nat.zero_add]
/-- A bit of a number, by its limbs. -/
theorem bit_at {xs : List Nat} (h : Lim xs) (i : Nat) : lval xs / 2 ^ i % 2 = xs.getD (i / 32) 0 / 2 ^ (i % 32) % 2 := by
  have e : 2 ^ i = B32 ^ (i / 32) * 2 ^ (i % 32) := by
    rw [B32_pow, ← Nat.pow_add]
    congr 1
    omega
  rw [e, ← Nat.div_div_eq_div_mul, lval_div h, lval_drop]
  have hs : i % 32 < 32 := Nat.mod_lt _ (by decide)
  generalize i % 32 = s at hs
  generalize xs.getD (i / 32) 0 = x
  generalize lval (xs.drop (i / 32 + 1)) = R
  have e2 : B32 * R = 2 ^ s * (2 * (2 ^ (31 - s) * R)) := by
    have : B32 = 2 ^ s * 2 * 2 ^ (31 - s) := by
      rw [← Nat.pow_succ, ← Nat.pow_add, show s.succ + (31 - s) = 32 by omega]
      rfl
    rw [this]
    simp only [Nat.mul_assoc]
  rw [e2, Nat.add_mul_div_left _ _ (Nat.pow_pos (by decide)), Nat.add_mul_mod_self_left]

theorem and_one (p : Nat) (hp : p < 4294967296) : bits BinOp.and IntKind.u32 (p : Int) 1 = ((p % 2 : Nat) : Int) := by
  have := u32_and_nat p 1 hp (by omega)
  rw [Nat.and_one_is_mod] at this
  exact this

/-- The bits that are still to be gone through: r. -/
structure DivRel (w wr : World) (n b r len : Nat) (v : Value) (u : List Nat) : Prop where
  old : Below w.heap.size w wr
  blk : Blk wr w.heap.size 80 (arr limbV u)
  len : u.length = len
  lim : Lim u
  left : RdN wr v (n / 2 ^ r % b)
  fresh : FreshV (w.heap.size + 1) v
  quo : lval u = n / 2 ^ r / b * 2 ^ r

theorem div_less {n b i l t bit : Nat} (hl : l = n / 2 ^ (i + 1) % b) (hbit : bit = n / 2 ^ i % 2) (ht : t = 2 * l + bit) (hlt : t < b) :
    n / 2 ^ i % b = t ∧ n / 2 ^ i / b = 2 * (n / 2 ^ (i + 1) / b) := by
  have e : n / 2 ^ i = t + b * (2 * (n / 2 ^ (i + 1) / b)) := by
    have h1 : n / 2 ^ i = 2 * (n / 2 ^ (i + 1)) + bit := by rw [hbit, Nat.pow_succ, ← Nat.div_div_eq_div_mul]; omega
    have h2 := Nat.mod_add_div (n / 2 ^ (i + 1)) b
    rw [← hl] at h2
    rw [h1, Nat.mul_left_comm]
    omega
  rw [e, Nat.add_mul_mod_self_left, Nat.mod_eq_of_lt hlt, Nat.add_mul_div_left _ _ (by omega), Nat.div_eq_of_lt hlt]
  exact ⟨rfl, by omega⟩
theorem div_more {n b i l t bit : Nat} (hb : b ≠ 0) (hl : l = n / 2 ^ (i + 1) % b) (hbit : bit = n / 2 ^ i % 2) (ht : t = 2 * l + bit) (hge : b ≤ t) :
    n / 2 ^ i % b = t - b ∧ n / 2 ^ i / b = 2 * (n / 2 ^ (i + 1) / b) + 1 := by
  have hlb : l < b := by rw [hl]; exact Nat.mod_lt _ (by omega)
  have hlt : t - b < b := by omega
  have e : n / 2 ^ i = (t - b) + b * (2 * (n / 2 ^ (i + 1) / b) + 1) := by
    have h1 : n / 2 ^ i = 2 * (n / 2 ^ (i + 1)) + bit := by rw [hbit, Nat.pow_succ, ← Nat.div_div_eq_div_mul]; omega
    have h2 := Nat.mod_add_div (n / 2 ^ (i + 1)) b
    rw [← hl] at h2
    rw [h1, Nat.mul_add, Nat.mul_left_comm]
    omega
  rw [e, Nat.add_mul_mod_self_left, Nat.mod_eq_of_lt hlt, Nat.add_mul_div_left _ _ (by omega), Nat.div_eq_of_lt hlt]
  exact ⟨rfl, by omega⟩
theorem limb_get {u : List Nat} (h : Lim u) (j : Nat) : u.getD j 0 = lval u / B32 ^ j % B32 := by
  rw [lval_div h, lval_drop, Nat.add_mul_mod_self_left]
  exact (Nat.mod_eq_of_lt (show _ < B32 from h.get j)).symm
/-- Bit i of a number that has none so low, or lower. -/
theorem put_bit {u : List Nat} (h : Lim u) {Q i j s o : Nat} (hu : lval u = Q * 2 ^ (i + 1)) (hj : j = i / 32) (hs : s = i % 32) (ho : o = u.getD j 0) (hl : j < u.length) :
    o ||| 2 ^ s = o + 2 ^ s ∧ o + 2 ^ s < B32 ∧ lval (u.set j (o + 2 ^ s)) = (2 * Q + 1) * 2 ^ i := by
  have hs32 : s < 32 := by omega
  have hB : B32 = 2 ^ (s + 1) * 2 ^ (31 - s) := by rw [← Nat.pow_add, show s + 1 + (31 - s) = 32 by omega]; rfl
  have hi : i = 32 * j + s := by omega
  have ho2 : o = 2 ^ (s + 1) * (Q % 2 ^ (31 - s)) := by
    rw [ho, limb_get h, hu, B32_pow, hi, Nat.add_assoc, Nat.pow_add, Nat.mul_left_comm, Nat.mul_div_cancel_left _ (Nat.pow_pos (by decide)), hB, Nat.mul_comm Q, Nat.mul_mod_mul_left]
  have hq : Q % 2 ^ (31 - s) + 1 ≤ 2 ^ (31 - s) := Nat.mod_lt _ (Nat.pow_pos (by decide))
  have hlt : o + 2 ^ s < B32 := by
    have h1 : 2 ^ (s + 1) * (Q % 2 ^ (31 - s) + 1) ≤ B32 := by rw [hB]; exact Nat.mul_le_mul_left _ hq
    rw [Nat.mul_add, ← ho2, Nat.mul_one, Nat.pow_succ] at h1
    have h2 : 0 < 2 ^ s := Nat.pow_pos (by decide)
    omega
  refine ⟨?_, hlt, ?_⟩
  · have hp : 2 ^ s < 2 ^ (s + 1) := Nat.pow_lt_pow_right (by decide) (by omega)
    have := Nat.two_pow_add_eq_or_of_lt hp (Q % 2 ^ (31 - s))
    rw [← ho2] at this
    exact this.symm
  · have hset := lval_set (u := u) (j := j) (o + 2 ^ s) hl
    rw [← ho, hu, Nat.mul_add] at hset
    have e : B32 ^ j * 2 ^ s = 2 ^ i := by rw [B32_pow, ← Nat.pow_add, ← hi]
    rw [e, Nat.pow_succ] at hset
    rw [Nat.add_mul, Nat.one_mul, Nat.mul_comm 2 Q, Nat.mul_assoc, Nat.mul_comm 2]
    omega

/-- A quotient and what is left. -/
def RetD (q r : Nat) (c : Int) (w : World) (e : Ending) (w' : World) : Prop := ∃ v v', e = .returned (.tuple #[v, v', .int .i64 c]) ∧ RdN w' v q ∧ RdN w' v' r ∧ Below w.heap.size w w'

set_option maxRecDepth 100000 in
set_option maxHeartbeats 1000000 in
theorem div_right (A A' : Option Addr) (cap cap' : Nat) (n b : Nat) (w : World) (h : RdL w A (limbs n)) (h' : RdL w A' (limbs b)) (hn : n < Top) (hb : b < Top) (hb0 : b ≠ 0) :
    Calls Try.prog 72 #[.slice A (limbs n).length cap, .slice A' (limbs b).length cap'] w (RetD (n / b) (n % b) 0 w) := by
  have hl := limbs_len16 hn
  have hl' := limbs_len16 hb
  have h0 : (limbs b).length ≠ 0 := by have := digs_len_pos B32_two hb0; show (digs B32 b).length ≠ 0; omega
  have H := Lib.hid h; clear h
  have H' := Lib.hid h'; clear h'
  have HN := Lib.hid hn; clear hn
  have HB := Lib.hid hb; clear hb
  have HB0 := Lib.hid hb0; clear hb0
  have hmk := fun W => run_mk (P := Try.prog) limbV 0 23 80 4 (by kernel_rfl) info_u32 rfl (limbs n).length (by omega) (by omega) W
  have g0 : (((limbs b).length : Int) == 0) = false := beq_eq_false_iff_ne.2 (by omega)
  go_enter Try.func72, Try.ntmps72
  go_wp2_with fail
  refine (both_any A A' cap cap' (limbs n) (limbs b) _ H.out H'.out (by omega) (by omega)).mono ?_
  rintro e w1 ⟨rfl, m, rfl⟩
  rw [rightL_limbs HN.out, rightL_limbs HB.out]
  go_wp2
  go_loopw [8, 9] (fun v i wr => ∃ (r : Nat) (u : List Nat), i = .int .i64 ((r : Int) - 1) ∧ r ≤ 32 * (limbs n).length ∧ DivRel w wr n b r (limbs n).length v u) (fun _ i _ => (intOf i + 1).toNat)
  case atStart =>
    have hz : n / 2 ^ (32 * (limbs n).length) = 0 := by
      rw [← B32_pow]
      exact Nat.div_eq_of_lt (limbs_len.1 (Nat.le_refl _))
    refine ⟨32 * (limbs n).length, List.replicate (limbs n).length 0, by go_num, Nat.le_refl _, bel_alloc (bel_drewN (bel_refl _) _) _, Blk.new (w.drewN m) _ _, by rw [List.length_replicate], ?_, ?_, ?_, ?_⟩
    · intro x hx; rw [List.eq_of_mem_replicate hx]; decide
    · rw [hz, Nat.zero_mod]; exact RdN.zero
    · intro a n c e; cases e
    · rw [hz, Nat.zero_div, Nat.zero_mul]
      exact val_zeros _ _ (fun x hx => List.eq_of_mem_replicate hx)
  case round =>
    obtain ⟨r, u, rfl, hr, hrel⟩ := hrel
    have HA := Lib.hid hrel; clear hrel
    by_cases hr0 : r = 0
    · subst hr0
      have hq := HA.out.quo
      have hl := HA.out.left
      rw [Nat.pow_zero, Nat.div_one, Nat.mul_one] at hq
      rw [Nat.pow_zero, Nat.div_one] at hl
      have HQ := Lib.hid hq; clear hq
      have HL := Lib.hid hl; clear hl
      have R9 : Hid (RdL wr (some ⟨w.heap.size, 0, none⟩) u) := HA.out.blk.rd 0 _ (Nat.le_refl _)
      go_wp2_with fail
      have hf := trim_N (some ⟨w.heap.size, 0, none⟩) (limbs n).length u _ R9.out HA.out.lim (by rw [HA.out.len]; exact Nat.le_refl _) (by rw [HA.out.len]; omega)
      rw [HA.out.len, HQ.out] at hf
      refine hf.mono ?_
      rintro e w2 ⟨v2, rfl, hn2, hb2⟩
      have HN2 := Lib.hid hn2; clear hn2
      have HB2 := Lib.hid hb2; clear hb2
      go_wp2
      go_ret3
      exact ⟨_, _, rfl, HN2.out, HL.out.below HB2.out, bel_trans HA.out.old HB2.out⟩
    · obtain ⟨i, rfl⟩ : ∃ i, r = i + 1 := ⟨r - 1, by omega⟩
      have hi : ((i + 1 : Nat) : Int) - 1 = (i : Int) := by omega
      rw [hi]
      have hi0 : (i : Int) ≤ 512 := by omega
      have RX := Lib.hid (H.out.below HA.out.old)
      obtain ⟨j, hj⟩ : ∃ j, j = i / 32 := ⟨_, rfl⟩
      obtain ⟨s, hs⟩ : ∃ s, s = i % 32 := ⟨_, rfl⟩
      have hjl : j < (limbs n).length := by omega
      obtain ⟨g, off, rfl, hg, hcell⟩ := RX.out.at_ hjl
      obtain ⟨x, hx⟩ : ∃ x, x = (limbs n).getD j 0 := ⟨_, rfl⟩
      have hx1 := (limbs_lim n).get j
      rw [← hx] at hcell hx1
      have Ex := Lib.hid hx; clear hx
      have sj : (i : Int) / 32 = (j : Int) := by omega
      have ss : (i : Int) % 32 = (s : Int) := by omega
      have hjl' : (j : Int) < ((limbs n).length : Int) := by omega
      obtain ⟨bit, hbit⟩ : ∃ bit, bit = x / 2 ^ s % 2 := ⟨_, rfl⟩
      have hb1 : bit ≤ 1 := by omega
      have sbit : bits BinOp.and IntKind.u32 ((x : Int) / 2 ^ s) 1 = (bit : Int) := by
        rw [hbit, ← and_one (x / 2 ^ s) (Nat.lt_of_le_of_lt (Nat.div_le_self _ _) hx1)]
        congr 1
      have ebit : Hid (bit = n / 2 ^ i % 2) := by
        show bit = _
        have := bit_at (limbs_lim n) i
        rw [lval_limbs, ← hj, ← hs, ← Ex.out, ← hbit] at this
        exact this.symm
      have HS := Lib.hid (And.intro hj (And.intro hs (And.intro hbit hx1))); clear hj hs hbit hx1
      obtain ⟨A9, c9, hv9, hc9, hr9⟩ := HA.out.left.row
      obtain ⟨l, hl9⟩ : ∃ l, l = n / 2 ^ (i + 1) % b := ⟨_, rfl⟩
      rw [← hl9] at hv9 hc9 hr9
      subst hv9
      have hlb : l < b := by rw [hl9]; exact Nat.mod_lt _ (by have := HB0.out; omega)
      have hl16 : (limbs l).length ≤ 16 := limbs_len16 (Nat.lt_trans hlb HB.out)
      have R9 := Lib.hid hr9; clear hr9
      have EL := Lib.hid hl9; clear hl9
      have HLB := Lib.hid hlb; clear hlb
      go_wp2_with fail
      refine (up_any A9 c9 (limbs l) bit _ R9.out (limbs_lim l) (by omega) hb1).mono ?_
      rintro e w2 ⟨v2, rfl, hn2, hf2, hb2⟩
      have HF2 := Lib.hid (hf2.mono (B := w.heap.size + 1) HA.out.blk.lt); clear hf2
      rw [lval_limbs] at hn2
      obtain ⟨t, ht⟩ : ∃ t, t = 2 * l + bit := ⟨_, rfl⟩
      rw [← ht] at hn2
      have ET := Lib.hid ht; clear ht
      have HN2 := Lib.hid hn2
      obtain ⟨A2, c2, hv2, hc2, hr2⟩ := hn2.row
      subst hv2
      clear hn2
      have R2 := Lib.hid hr2; clear hr2
      have HB2 := Lib.hid hb2; clear hb2
      have htl : (limbs t).length ≤ 17 := limbs_len.2 (by
        have h1 : l < B32 ^ 16 := Nat.lt_trans HLB.out HB.out
        rw [ET.out, show B32 ^ 17 = B32 ^ 16 * B32 from Nat.pow_succ ..]
        generalize B32 ^ 16 = P at h1
        rw [B32_eq]
        omega)
      have RB2 := Lib.hid ((H'.out.below HA.out.old).below HB2.out)
      go_wp2_with fail
      refine (compare_any A2 A' c2 cap' t b _ R2.out RB2.out (by omega)).mono ?_
      rintro e w3 ⟨rfl, m3, rfl⟩
      by_cases hge : b ≤ t
      · have hc : decide (0 ≤ cmpI (t : Int) (b : Int)) = true := decide_eq_true (by unfold cmpI; rw [if_neg (by omega)]; split <;> omega)
        have hc' : 0 ≤ cmpI (t : Int) (b : Int) := of_decide_eq_true hc
        have HGE := Lib.hid hge; clear hge
        go_wp2_with fail
        have hsub := sub_any A2 A' c2 cap' (limbs t) (limbs b) (w2.drewN m3) (R2.out.drewN _) (RB2.out.drewN _) (limbs_lim t) (limbs_lim b) (by omega) (limbs_le_len HGE.out) (by rw [lval_limbs, lval_limbs]; exact HGE.out)
        rw [lval_limbs, lval_limbs] at hsub
        refine hsub.mono ?_
        rintro e w4 ⟨v4, rfl, hn4, hf4, hb4⟩
        have HF4 := Lib.hid (hf4.mono (B := w.heap.size + 1) (by have := HA.out.blk.lt; have := HB2.out.size; simp; omega)); clear hf4
        have HN4 := Lib.hid hn4; clear hn4
        have HB4 := Lib.hid hb4; clear hb4
        clear hcell hsub
        have hbl4 : Hid (Below wr.heap.size wr w4) := bel_trans (bel_drewN HB2.out _) HB4.out
        have K4 : Hid (Blk w4 w.heap.size 80 (arr limbV u)) := HA.out.blk.below hbl4.out HA.out.blk.lt
        have hcq := K4.out.at_ 0 (k := j) (by rw [HA.out.len]; exact hjl)
        obtain ⟨o, ho⟩ : ∃ o, o = u.getD j 0 := ⟨_, rfl⟩
        rw [← ho, limbV_eq] at hcq
        have hfz : w4.frozen? ⟨w.heap.size, j, none⟩ = false := K4.out.frozen j
        have HO := Lib.hid ho; clear ho
        go_wp2
        go_region
        go_wp2
        go_roundw
        case rel =>
          obtain ⟨hj, hs, hbit, hx1⟩ := HS.out
          obtain ⟨p1, p2, p3⟩ := put_bit HA.out.lim HA.out.quo hj hs HO.out (by rw [HA.out.len]; exact hjl)
          obtain ⟨d1, d2⟩ := div_more HB0.out EL.out ebit.out ET.out HGE.out
          have ho1 : o < 4294967296 := by rw [HO.out]; exact HA.out.lim.get j
          have hs1 : 2 ^ s < 4294967296 := by
            have := Nat.pow_lt_pow_right (a := 2) (by decide) (show s < 32 by omega)
            exact this
          have ev : bits BinOp.or IntKind.u32 (o : Int) (2 ^ s % 4294967296) = ((o + 2 ^ s : Nat) : Int) := by
            rw [← p1, ← u32_or_nat o (2 ^ s) ho1 hs1]
            congr 1
            rw [Int.natCast_pow]
            have : ((2 ^ s : Nat) : Int) < 4294967296 := by omega
            rw [Int.natCast_pow] at this
            exact Int.emod_eq_of_lt (Int.pow_nonneg (by decide)) this
          rw [ev]
          refine ⟨i, u.set j (o + 2 ^ s), by go_num, by omega, ?_⟩
          refine ⟨bel_trans HA.out.old hbl4.out |>.setCell (Nat.le_refl _) _ |>.drew, (K4.out.set_ _ _).drew, by rw [List.length_set]; exact HA.out.len, HA.out.lim.set _ p2, ?_, HF4.out, ?_⟩
          · rw [d1]; exact (HN4.out.setCell HF4.out (Nat.lt_succ_self _)).below (Below.refl _ _).drew
          · rw [p3, d2]
        case measure => simp [intOf]
      · have hc : decide (0 ≤ cmpI (t : Int) (b : Int)) = false := decide_eq_false (by rw [cmpI_lt (by omega)]; omega)
        have hc' : ¬ 0 ≤ cmpI (t : Int) (b : Int) := of_decide_eq_false hc
        have HLT : Hid (t < b) := Lib.hid (by omega)
        go_wp2
        go_roundw
        case rel =>
          obtain ⟨d1, d2⟩ := div_less EL.out ebit.out ET.out HLT.out
          refine ⟨i, u, by go_num, by omega, bel_trans HA.out.old (bel_drewN HB2.out _), HA.out.blk.below (bel_drewN HB2.out _) HA.out.blk.lt, HA.out.len, HA.out.lim, ?_, HF2.out, ?_⟩
          · rw [d1]; exact HN2.out.below (bel_drewN (bel_refl _) _)
          · rw [HA.out.quo, d2, Nat.pow_succ, Nat.mul_comm 2, Nat.mul_assoc, Nat.mul_comm 2]
        case measure => simp [intOf]
end Go.Proofs.Ytmbbdjpnecjleaa
