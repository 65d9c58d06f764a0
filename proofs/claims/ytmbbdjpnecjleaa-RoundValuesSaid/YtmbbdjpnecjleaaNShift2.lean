/-
  Shift, walked.
-/
import Derived.Test.YtmbbdjpnecjleaaNShift
namespace Go.Proofs.Ytmbbdjpnecjleaa
set_option maxRecDepth 100000
open Go.RowKit

/-- A number times a power of two. -/
def shN (n : Nat) (by_ : Int) : Nat := if 0 ≤ by_ then n * 2 ^ by_.toNat else n / 2 ^ (-by_).toNat

theorem shN_none {n : Nat} {b : Int} (h : n = 0 ∨ (b < 0 ∧ b ≤ -(nbits n : Int))) : shN n b = 0 := by
  unfold shN
  rcases h with rfl | ⟨h1, h2⟩
  · split <;> simp
  · rw [if_neg (by omega)]
    refine Nat.div_eq_of_lt (Nat.lt_of_lt_of_le (nbits_lt n) (Nat.pow_le_pow_right (by decide) (by omega)))
/-- 512. -/
def E512 : Nat := 32 * 16
theorem E512_eq : E512 = 512 := rfl
theorem top_pow : Top = 2 ^ E512 := by unfold Top E512; rw [B32_pow]
theorem shN_over {n : Nat} {b : Int} (h0 : n ≠ 0) (h1 : 0 ≤ b) (h : 512 - (nbits n : Int) < b) : ¬ shN n b < Top := by
  unfold shN
  rw [if_pos h1, top_pow]
  have h2 := nbits_le h0
  have h3 := nbits_pos h0
  have h4 : 2 ^ E512 ≤ 2 ^ (nbits n - 1) * 2 ^ b.toNat := by
    rw [← Nat.pow_add]
    exact Nat.pow_le_pow_right (by decide) (by rw [E512_eq]; omega)
  have h5 : 2 ^ (nbits n - 1) * 2 ^ b.toNat ≤ n * 2 ^ b.toNat := Nat.mul_le_mul_right _ h2
  omega

/-- Bit k of a number below 2^k. -/
theorem put_low {u : List Nat} (h : Lim u) {k j s o bit : Nat} (hu : lval u < 2 ^ k) (hj : j = k / 32) (hs : s = k % 32) (ho : o = u.getD j 0) (hl : j < u.length) (hb : bit ≤ 1) :
    o ||| bit * 2 ^ s = o + bit * 2 ^ s ∧ o + bit * 2 ^ s < B32 ∧ lval (u.set j (o + bit * 2 ^ s)) = lval u + bit * 2 ^ k := by
  have hs32 : s < 32 := by omega
  have hk : k = 32 * j + s := by omega
  have ho2 : o < 2 ^ s := by
    rw [ho, limb_get h]
    refine Nat.lt_of_le_of_lt (Nat.mod_le _ _) ?_
    rw [Nat.div_lt_iff_lt_mul (Nat.pow_pos (by decide)), B32_pow, ← Nat.pow_add, Nat.add_comm, ← hk]
    exact hu
  have hb2 : bit * 2 ^ s ≤ 2 ^ s := by
    have := Nat.mul_le_mul_right (2 ^ s) hb
    rwa [Nat.one_mul] at this
  have hlt : o + bit * 2 ^ s < B32 := by
    have h1 : 2 ^ (s + 1) ≤ 2 ^ 32 := Nat.pow_le_pow_right (by decide) (by omega)
    rw [Nat.pow_succ] at h1
    have : B32 = 2 ^ 32 := rfl
    omega
  refine ⟨?_, hlt, ?_⟩
  · have := Nat.two_pow_add_eq_or_of_lt ho2 bit
    rw [Nat.mul_comm bit, Nat.or_comm, Nat.add_comm, this]
  · have hset := lval_set (u := u) (j := j) (o + bit * 2 ^ s) hl
    rw [← ho, Nat.mul_add] at hset
    have e : B32 ^ j * (bit * 2 ^ s) = bit * 2 ^ k := by rw [Nat.mul_left_comm, B32_pow, ← Nat.pow_add, ← hk]
    rw [e] at hset
    omega

/-- The bits that were shifted: m. -/
structure ShRel (w wr : World) (N up m : Nat) (u : List Nat) : Prop where
  old : Below w.heap.size w wr
  blk : Blk wr w.heap.size 80 (arr limbV u)
  len : u.length = 17
  lim : Lim u
  val : lval u = N % 2 ^ m * 2 ^ up
theorem mod_step (N m : Nat) : N % 2 ^ (m + 1) = N % 2 ^ m + N / 2 ^ m % 2 * 2 ^ m := by
  rw [Nat.pow_succ, Nat.mod_mul, Nat.mul_comm (2 ^ m)]

theorem sh_done {n i0 up m : Nat} {b : Int} (hi0 : i0 = (-b).toNat) (hup : up = b.toNat) (h : n < 2 ^ (i0 + m)) : n / 2 ^ i0 % 2 ^ m * 2 ^ up = shN n b := by
  have hlt : n / 2 ^ i0 < 2 ^ m := by
    rw [Nat.div_lt_iff_lt_mul (Nat.pow_pos (by decide)), Nat.mul_comm, ← Nat.pow_add]
    exact h
  rw [Nat.mod_eq_of_lt hlt]
  unfold shN
  by_cases hb : 0 ≤ b
  · have e : i0 = 0 := by omega
    rw [if_pos hb, e, Nat.pow_zero, Nat.div_one, hup]
  · have e : up = 0 := by omega
    rw [if_neg hb, e, Nat.pow_zero, Nat.mul_one, hi0]

set_option maxRecDepth 100000 in
set_option maxHeartbeats 1000000 in
theorem shift_go (A : Option Addr) (cap : Nat) (n i0 up : Nat) (b : Int) (w : World) (h : RdL w A (limbs n)) (hn : n < Top) (hn0 : n ≠ 0)
    (hi0 : i0 = (-b).toNat) (hup : up = b.toNat) (h1 : i0 < nbits n) (h2 : nbits n + up ≤ 512 + i0) (h3 : -1000 ≤ b) (h4 : b ≤ 1000) :
    Calls Try.prog 76 #[.slice A (limbs n).length cap, .int .i64 b] w (RetNE (shN n b) 0 w) := by
  have hl := limbs_len16 hn
  have H := Lib.hid h; clear h
  have HN := Lib.hid hn; clear hn
  have hnb := nbits_pos hn0
  have hnb2 : nbits n ≤ 512 := Nat.le_trans (nbits_le_of (k := E512) (by rw [← top_pow]; exact HN.out)) (by rw [E512_eq]; exact Nat.le_refl _)
  obtain ⟨L, hL⟩ : ∃ L, L = nbits n := ⟨_, rfl⟩
  rw [← hL] at hnb hnb2 h1 h2
  have g0 : ((L : Int) == 0) = false := beq_eq_false_iff_ne.2 (by omega)
  have g1 : decide (b ≤ -(L : Int)) = false := decide_eq_false (by omega)
  have g1' : ¬ b ≤ -(L : Int) := by omega
  have g2 : ¬ 512 - (L : Int) < b := by omega
  have hmk : ∀ W, (Instr.makeSlice 23 (.int .i64 17) (.int .i64 17)).run Try.prog W = .ok (.slice (some ⟨W.heap.size, 0, none⟩) 17 17) (W.alloc (.cells (arr limbV (List.replicate 17 0)) 80)) := fun W => run_mk (P := Try.prog) limbV 0 23 80 4 (by kernel_rfl) info_u32 rfl 17 (by omega) (by omega) W
  have hmax : ∀ W, (Builtin.max_ #[3, 3] 3 #[.int .i64 0, .int .i64 (-b)]).run Try.prog W = .ok (.int .i64 (i0 : Int)) W := fun W => by
    rw [run_max_int2, hi0]
    congr 2
    split <;> omega
  have HLb := Lib.hid (And.intro hL (And.intro hi0 (And.intro hup hn0))); clear hL hi0 hup hn0
  go_enter Try.func76, Try.ntmps76
  go_wp2_with fail
  refine (size_any A cap (limbs n) _ H.out (limbs_lim n) (by omega)).mono ?_
  rintro e w1 ⟨rfl, m1, rfl⟩
  rw [sizeL_limbs, ← HLb.out.1]
  go_wp2_with fail
  refine (right_any A cap (limbs n) _ (H.out.drewN m1) (by omega)).mono ?_
  rintro e w1 ⟨rfl, m2, rfl⟩
  rw [rightL_limbs HN.out]
  go_wp2
  all_goals
    go_loopw [8, 9] (fun i _ wr => ∃ (m : Nat) (u : List Nat), i = .int .i64 ((i0 + m : Nat) : Int) ∧ i0 + m ≤ L ∧ ShRel w wr (n / 2 ^ i0) up m u) (fun i _ _ => L - (intOf i).toNat)
    case atStart =>
      refine ⟨0, List.replicate 17 0, rfl, by omega, bel_alloc (bel_drewN (bel_refl _) _) _, Blk.new (w.drewN (m1 + m2)) _ _, by rw [List.length_replicate], ?_, ?_⟩
      · intro x hx; rw [List.eq_of_mem_replicate hx]; decide
      · rw [Nat.pow_zero, Nat.mod_one, Nat.zero_mul]
        exact val_zeros _ _ (fun x hx => List.eq_of_mem_replicate hx)
    case round =>
      obtain ⟨m, u, rfl, hm, hrel⟩ := hrel
      have HA := Lib.hid hrel; clear hrel
      obtain ⟨i, hi⟩ : ∃ i, i = i0 + m := ⟨_, rfl⟩
      rw [← hi] at hm ⊢
      by_cases hlt : i < L
      · have hlt' : (i : Int) < (L : Int) := by omega
        have RX := Lib.hid (H.out.below HA.out.old)
        obtain ⟨k, hk⟩ : ∃ k, k = m + up := ⟨_, rfl⟩
        have sk : IntKind.i64.wrap ((i : Int) + b) = (k : Int) := by rw [IntKind.wrap_i64]; have := HLb.out; omega
        have hk512 : k < 512 := by omega
        have hi512 : i < 512 := by omega
        obtain ⟨j, hj⟩ : ∃ j, j = i / 32 := ⟨_, rfl⟩
        obtain ⟨s, hs⟩ : ∃ s, s = i % 32 := ⟨_, rfl⟩
        obtain ⟨j', hj'⟩ : ∃ j', j' = k / 32 := ⟨_, rfl⟩
        obtain ⟨s', hs'⟩ : ∃ s', s' = k % 32 := ⟨_, rfl⟩
        have hjl : j < (limbs n).length := by
          have hpw : ¬ n < 2 ^ i := fun hh => by
            have := nbits_le_of hh
            rw [← HLb.out.1] at this
            omega
          have h5 : ¬ (limbs n).length ≤ j := fun hh => hpw (by
            have h6 := limbs_len.1 hh
            rw [B32_pow] at h6
            exact Nat.lt_of_lt_of_le h6 (Nat.pow_le_pow_right (by decide) (by omega)))
          omega
        obtain ⟨g, off, rfl, hg, hcell⟩ := RX.out.at_ hjl
        obtain ⟨x, hx⟩ : ∃ x, x = (limbs n).getD j 0 := ⟨_, rfl⟩
        have hx1 := (limbs_lim n).get j
        rw [← hx] at hcell hx1
        have Ex := Lib.hid hx; clear hx
        have sj : (i : Int) / 32 = (j : Int) := by omega
        have ss : (i : Int) % 32 = (s : Int) := by omega
        have sj' : (k : Int) / 32 = (j' : Int) := by omega
        have ss' : (k : Int) % 32 = (s' : Int) := by omega
        have hjl' : (j : Int) < ((limbs n).length : Int) := by omega
        have hj17 : (j' : Int) < 17 := by omega
        obtain ⟨bit, hbit⟩ : ∃ bit, bit = x / 2 ^ s % 2 := ⟨_, rfl⟩
        have sbit : bits BinOp.and IntKind.u32 ((x : Int) / 2 ^ s) 1 = (bit : Int) := by
          rw [hbit, ← and_one (x / 2 ^ s) (Nat.lt_of_le_of_lt (Nat.div_le_self _ _) hx1)]
          congr 1
        have ebit : Hid (bit = n / 2 ^ i0 / 2 ^ m % 2) := by
          show bit = _
          have := bit_at (limbs_lim n) i
          rw [lval_limbs, ← hj, ← hs, ← Ex.out, ← hbit] at this
          rw [← this, hi, Nat.pow_add, Nat.div_div_eq_div_mul]
        have hcq := HA.out.blk.at_ 0 (k := j') (by rw [HA.out.len]; omega)
        obtain ⟨o, ho⟩ : ∃ o, o = u.getD j' 0 := ⟨_, rfl⟩
        rw [← ho, limbV_eq] at hcq
        have hfz : wr.frozen? ⟨w.heap.size, j', none⟩ = false := HA.out.blk.frozen j'
        have HS := Lib.hid (And.intro hj' (And.intro hs' (And.intro ho (And.intro hbit (And.intro hk hi))))); clear hj hs hj' hs' hbit hx1 ho hk hi
        go_wp2
        go_region
        go_wp2
        go_roundw
        case rel =>
          obtain ⟨hj', hs', ho, hbit, hk, hi⟩ := HS.out
          have hb1 : bit ≤ 1 := by omega
          have hu : lval u < 2 ^ k := by
            rw [HA.out.val, hk, Nat.pow_add]
            exact Nat.mul_lt_mul_of_pos_right (Nat.mod_lt _ (Nat.pow_pos (by decide))) (Nat.pow_pos (by decide))
          obtain ⟨p1, p2, p3⟩ := put_low HA.out.lim hu hj' hs' ho (by rw [HA.out.len]; omega) hb1
          have ho1 : o < 4294967296 := by rw [ho]; exact HA.out.lim.get j'
          have hbs : bit * 2 ^ s' < 4294967296 := by have e := B32_eq; omega
          have ev : bits BinOp.or IntKind.u32 (o : Int) ((bit : Int) * 2 ^ s' % 4294967296) = ((o + bit * 2 ^ s' : Nat) : Int) := by
            rw [← p1, ← u32_or_nat o (bit * 2 ^ s') ho1 hbs]
            congr 1
            have h8 : ((bit : Int) * 2 ^ s') = ((bit * 2 ^ s' : Nat) : Int) := by rw [Int.natCast_mul, Int.natCast_pow]; rfl
            rw [h8]
            omega
          rw [ev]
          refine ⟨m + 1, u.set j' (o + bit * 2 ^ s'), by rw [hi]; go_num, by omega, ?_⟩
          refine ⟨(HA.out.old.setCell (Nat.le_refl _) _).drew, (HA.out.blk.set_ _ _).drew, by rw [List.length_set]; exact HA.out.len, HA.out.lim.set _ p2, ?_⟩
          rw [p3, HA.out.val, mod_step, ← ebit.out, Nat.add_mul, hk, Nat.pow_add, Nat.mul_assoc]
        case measure => simp [intOf]; omega
      · have HU : Hid (lval u = shN n b) := by
          obtain ⟨hL, hi0, hup, hn0⟩ := HLb.out
          show lval u = _
          rw [HA.out.val]
          exact sh_done hi0 hup (by rw [show i0 + m = nbits n by omega]; exact nbits_lt n)
        have R9 : Hid (RdL wr (some ⟨w.heap.size, 0, none⟩) u) := HA.out.blk.rd 0 _ (Nat.le_refl _)
        go_wp2_with fail
        have hf := trim_N (some ⟨w.heap.size, 0, none⟩) 17 u _ R9.out HA.out.lim (by rw [HA.out.len]; exact Nat.le_refl _) (by rw [HA.out.len]; omega)
        rw [HA.out.len, HU.out] at hf
        refine hf.mono ?_
        rintro e w2 ⟨v2, rfl, hn2, hb2⟩
        have HN2 := Lib.hid hn2; clear hn2
        have HB2 := Lib.hid hb2; clear hb2
        go_wp2
        go_ret2
        exact ⟨_, rfl, HN2.out, bel_trans HA.out.old HB2.out⟩

set_option maxHeartbeats 400000 in
theorem shift_wrong (A : Option Addr) (cap : Nat) (xs : List Nat) (b : Int) (w : World) (h : RdL w A xs) (hx : Lim xs) (hl : xs.length ≤ 18) (hr : rightL xs = false) :
    Calls Try.prog 76 #[.slice A xs.length cap, .int .i64 b] w (RetNE 0 1 w) := by
  have H := Lib.hid h; clear h
  have HX := Lib.hid hx; clear hx
  go_enter Try.func76, Try.ntmps76
  go_wp2_with fail
  refine (size_any A cap xs _ H.out HX.out hl).mono ?_
  rintro e w1 ⟨rfl, m1, rfl⟩
  go_wp2_with fail
  refine (right_any A cap xs _ (H.out.drewN m1) (by omega)).mono ?_
  rintro e w1 ⟨rfl, m2, rfl⟩
  rw [hr]
  go_wp2
  go_ret2
  exact ⟨_, rfl, RdN.zero, bel_drewN (bel_refl _) _⟩

set_option maxHeartbeats 400000 in
theorem shift_none (A : Option Addr) (cap n : Nat) (b : Int) (w : World) (h : RdL w A (limbs n)) (hn : n < Top) (hz : n = 0 ∨ (n ≠ 0 ∧ b < 0 ∧ b ≤ -(nbits n : Int))) :
    Calls Try.prog 76 #[.slice A (limbs n).length cap, .int .i64 b] w (RetNE 0 0 w) := by
  have hl := limbs_len16 hn
  have H := Lib.hid h; clear h
  have HN := Lib.hid hn; clear hn
  have hnb2 : nbits n ≤ 512 := Nat.le_trans (nbits_le_of (k := E512) (by rw [← top_pow]; exact HN.out)) (by rw [E512_eq]; exact Nat.le_refl _)
  have hz' : (nbits n = 0) ∨ (nbits n ≠ 0 ∧ b < 0 ∧ b ≤ -(nbits n : Int)) := by
    rcases hz with rfl | ⟨h0, h1, h2⟩
    · exact .inl rfl
    · exact .inr ⟨by have := nbits_pos h0; omega, h1, h2⟩
  clear hz
  obtain ⟨L, hL⟩ : ∃ L, L = nbits n := ⟨_, rfl⟩
  rw [← hL] at hnb2 hz'
  have HL := Lib.hid hL; clear hL
  rcases hz' with h0 | ⟨h0, h1, h2⟩
  · have g0 : ((L : Int) == 0) = true := by rw [h0]; rfl
    go_enter Try.func76, Try.ntmps76
    go_wp2_with fail
    refine (size_any A cap (limbs n) _ H.out (limbs_lim n) (by omega)).mono ?_
    rintro e w1 ⟨rfl, m1, rfl⟩
    rw [sizeL_limbs, ← HL.out]
    go_wp2_with fail
    refine (right_any A cap (limbs n) _ (H.out.drewN m1) (by omega)).mono ?_
    rintro e w1 ⟨rfl, m2, rfl⟩
    rw [rightL_limbs HN.out]
    go_wp2
    go_ret2
    exact ⟨_, rfl, RdN.zero, bel_drewN (bel_refl _) _⟩
  · have g0 : ((L : Int) == 0) = false := beq_eq_false_iff_ne.2 (by omega)
    go_enter Try.func76, Try.ntmps76
    go_wp2_with fail
    refine (size_any A cap (limbs n) _ H.out (limbs_lim n) (by omega)).mono ?_
    rintro e w1 ⟨rfl, m1, rfl⟩
    rw [sizeL_limbs, ← HL.out]
    go_wp2_with fail
    refine (right_any A cap (limbs n) _ (H.out.drewN m1) (by omega)).mono ?_
    rintro e w1 ⟨rfl, m2, rfl⟩
    rw [rightL_limbs HN.out]
    go_wp2
    all_goals
      go_ret2
      exact ⟨_, rfl, RdN.zero, bel_drewN (bel_refl _) _⟩

set_option maxHeartbeats 400000 in
theorem shift_over (A : Option Addr) (cap n : Nat) (b : Int) (w : World) (h : RdL w A (limbs n)) (hn : n < Top) (hn0 : n ≠ 0) (hb0 : 0 ≤ b) (hb : 512 - (nbits n : Int) < b) :
    Calls Try.prog 76 #[.slice A (limbs n).length cap, .int .i64 b] w (RetNE 0 2 w) := by
  have hl := limbs_len16 hn
  have H := Lib.hid h; clear h
  have HN := Lib.hid hn; clear hn
  have hnb2 : nbits n ≤ 512 := Nat.le_trans (nbits_le_of (k := E512) (by rw [← top_pow]; exact HN.out)) (by rw [E512_eq]; exact Nat.le_refl _)
  have hnb := nbits_pos hn0
  obtain ⟨L, hL⟩ : ∃ L, L = nbits n := ⟨_, rfl⟩
  rw [← hL] at hnb hnb2 hb
  have HL := Lib.hid hL; clear hL
  have g0 : ((L : Int) == 0) = false := beq_eq_false_iff_ne.2 (by omega)
  have g1 : ¬ b < 0 := by omega
  go_enter Try.func76, Try.ntmps76
  go_wp2_with fail
  refine (size_any A cap (limbs n) _ H.out (limbs_lim n) (by omega)).mono ?_
  rintro e w1 ⟨rfl, m1, rfl⟩
  rw [sizeL_limbs, ← HL.out]
  go_wp2_with fail
  refine (right_any A cap (limbs n) _ (H.out.drewN m1) (by omega)).mono ?_
  rintro e w1 ⟨rfl, m2, rfl⟩
  rw [rightL_limbs HN.out]
  go_wp2
  go_ret2
  exact ⟨_, rfl, RdN.zero, bel_drewN (bel_refl _) _⟩

theorem shN_small {n : Nat} {b : Int} (h : b ≤ 512 - (nbits n : Int)) (hn : n < Top) : shN n b < Top := by
  have hnb2 : nbits n ≤ 512 := Nat.le_trans (nbits_le_of (k := E512) (by rw [← top_pow]; exact hn)) (by rw [E512_eq]; exact Nat.le_refl _)
  unfold shN
  split
  · rw [top_pow]
    have h1 := nbits_lt n
    have h2 : n * 2 ^ b.toNat < 2 ^ nbits n * 2 ^ b.toNat := Nat.mul_lt_mul_of_pos_right h1 (Nat.pow_pos (by decide))
    refine Nat.lt_of_lt_of_le h2 ?_
    rw [← Nat.pow_add]
    exact Nat.pow_le_pow_right (by decide) (by rw [E512_eq]; omega)
  · exact Nat.lt_of_le_of_lt (Nat.div_le_self _ _) hn

/-- Shift, whole, of a number that may be. -/
theorem shift_right (A : Option Addr) (cap n : Nat) (b : Int) (w : World) (h : RdL w A (limbs n)) (hn : n < Top) :
    Calls Try.prog 76 #[.slice A (limbs n).length cap, .int .i64 b] w (RetNE (fitN (shN n b)) (fitC (shN n b)) w) := by
  have hnb2 : nbits n ≤ 512 := Nat.le_trans (nbits_le_of (k := E512) (by rw [← top_pow]; exact hn)) (by rw [E512_eq]; exact Nat.le_refl _)
  by_cases hz : n = 0 ∨ (n ≠ 0 ∧ b < 0 ∧ b ≤ -(nbits n : Int))
  · have e := shN_none (n := n) (b := b) (by rcases hz with h | ⟨_, h⟩; exact .inl h; exact .inr h)
    rw [e]
    exact shift_none A cap n b w h hn hz
  · have hn0 : n ≠ 0 := fun e => hz (.inl e)
    have hz2 : ¬ (b < 0 ∧ b ≤ -(nbits n : Int)) := fun e => hz (.inr ⟨hn0, e⟩)
    have hp := nbits_pos hn0
    by_cases ho : 512 - (nbits n : Int) < b
    · have e := shN_over hn0 (by omega) ho
      unfold fitN fitC
      rw [if_neg e, if_neg e]
      exact shift_over A cap n b w h hn hn0 (by omega) ho
    · have e := shN_small (n := n) (b := b) (by omega) hn
      unfold fitN fitC
      rw [if_pos e, if_pos e]
      exact shift_go A cap n (-b).toNat b.toNat b w h hn hn0 rfl rfl (by omega) (by omega) (by omega) (by omega)
end Go.Proofs.Ytmbbdjpnecjleaa
