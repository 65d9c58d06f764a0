/-
 Parts: NShift NShift2 NRev Dec.
-/
import Derived.Test.YtmbbdjpnecjleaaGreatH04
import Derived.Lib.ItoaNum
import Derived.Laws.EntriesVeiled
import Derived.Laws.BytesString
namespace Go.Proofs.YtmbbdjpnecjleaaGreat
section
set_option maxRecDepth 100000
set_option maxHeartbeats 1000000
open Go.RowKit

def nbits (n : Nat) : Nat := if n = 0 then 0 else n.log2 + 1
theorem nbits_lt (n : Nat) : n < 2 ^ nbits n := by
 unfold nbits
 by_cases h : n = 0
 · subst h; decide
 · rw [if_neg h]; exact Nat.lt_log2_self
theorem nbits_le {n : Nat} (h : n ≠ 0) : 2 ^ (nbits n - 1) ≤ n := by
 unfold nbits
 rw [if_neg h]
 exact Nat.log2_self_le h
theorem nbits_pos {n : Nat} (h : n ≠ 0) : 0 < nbits n := by unfold nbits; rw [if_neg h]; omega
theorem nbits_of {n k : Nat} (h0 : 0 < k) (h1 : 2 ^ (k - 1) ≤ n) (h2 : n < 2 ^ k) : nbits n = k := by
 have hn : n ≠ 0 := fun e => by rw [e] at h1; have := Nat.pow_pos (n := k - 1) (show 0 < 2 by decide); omega
 have a1 := nbits_lt n
 have a2 := nbits_le hn
 have a3 := nbits_pos hn
 have c1 : k - 1 < nbits n := (Nat.pow_lt_pow_iff_right (a := 2) (by decide)).1 (Nat.lt_of_le_of_lt h1 a1)
 have c2 : nbits n - 1 < k := (Nat.pow_lt_pow_iff_right (a := 2) (by decide)).1 (Nat.lt_of_le_of_lt a2 h2)
 omega
theorem nbits_le_of {n k : Nat} (h : n < 2 ^ k) : nbits n ≤ k := by
 by_cases hn : n = 0
 · subst hn; exact Nat.zero_le _
 · have c2 : nbits n - 1 < k := (Nat.pow_lt_pow_iff_right (a := 2) (by decide)).1 (Nat.lt_of_le_of_lt (nbits_le hn) h)
   omega
theorem bitLen_nbits {x : Nat} (h : x < 4294967296) : Go.Lib.bitLen x = nbits x := by
 by_cases h0 : x = 0
 · subst h0; rfl
 · obtain ⟨a, b, c⟩ := Go.Lib.bitLenAux_bounds 64 x (Nat.lt_of_lt_of_le h (by decide)) h0
   exact (nbits_of a b c).symm

def sizeL (xs : List Nat) : Nat := if xs.length = 0 then 0 else 32 * (xs.length - 1) + nbits (xs.getD (xs.length - 1) 0)
theorem sizeL_limbs (n : Nat) : sizeL (limbs n) = nbits n := by
 unfold sizeL
 by_cases h0 : n = 0
 · subst h0; rfl
 · have hl : 0 < (limbs n).length := digs_len_pos B32_two h0
   rw [if_neg (by omega)]
   have hk : (limbs n).length = (limbs n).length - 1 + 1 := by omega
   have hlow : ¬ n < B32 ^ ((limbs n).length - 1) := fun h => by have := limbs_len.2 h; omega
   have hhigh : n < B32 ^ ((limbs n).length - 1 + 1) := by rw [← hk]; exact limbs_len.1 (Nat.le_refl _)
   generalize (limbs n).length - 1 = m at hlow hhigh
   rw [limbs_get]
   have hP : 0 < B32 ^ m := Nat.pow_pos (by decide)
   have ht : n / B32 ^ m % B32 = n / B32 ^ m := Nat.mod_eq_of_lt (by
    rw [Nat.div_lt_iff_lt_mul hP, Nat.mul_comm, ← Nat.pow_succ]; exact hhigh)
   rw [ht]
   have ht0 : n / B32 ^ m ≠ 0 := by
    have := Nat.div_pos (Nat.le_of_not_lt hlow) hP
    omega
   have b1 := nbits_lt (n / B32 ^ m)
   have b2 := nbits_le ht0
   have b3 := nbits_pos ht0
   refine (nbits_of (by omega) ?_ ?_).symm
   · rw [show 32 * m + nbits (n / B32 ^ m) - 1 = 32 * m + (nbits (n / B32 ^ m) - 1) by omega, Nat.pow_add, ← B32_pow]
     calc B32 ^ m * 2 ^ (nbits (n / B32 ^ m) - 1) ≤ B32 ^ m * (n / B32 ^ m) := Nat.mul_le_mul_left _ b2
      _ ≤ n := Nat.mul_div_le _ _
   · rw [Nat.pow_add, ← B32_pow, Nat.mul_comm, ← Nat.div_lt_iff_lt_mul hP]
     exact b1

theorem size_any (A : Option Addr) (cap : Nat) (xs : List Nat) (w : World) (h : RdL w A xs) (hx : Lim xs) (hl : xs.length ≤ 18) :
 Calls Tryz.prog 130 #[.slice A xs.length cap] w (RetID (sizeL xs) w) := by
 unfold sizeL
 by_cases h0 : xs.length = 0
 · have g0 : ((xs.length : Int) == 0) = true := by rw [h0]; rfl
   rw [if_pos h0]
   go_enter Tryz.func130, Tryz.ntmps130
   go_wp2
   go_ret
   exact ⟨rfl, 0, rfl⟩
 · have g0 : ((xs.length : Int) == 0) = false := beq_eq_false_iff_ne.2 (by omega)
   rw [if_neg h0]
   obtain ⟨b, off, rfl, hb, hc⟩ := h.at_ (k := xs.length - 1) (by omega)
   have hx1 := hx.get (xs.length - 1)
   obtain ⟨x, hxe⟩ : ∃ x, x = xs.getD (xs.length - 1) 0 := ⟨_, rfl⟩
   rw [← hxe] at hc hx1 ⊢
   have HX := Lib.hid hxe; clear hxe
   have H := Lib.hid h; clear h
   obtain ⟨m, hm⟩ : ∃ m, m = xs.length - 1 := ⟨_, rfl⟩
   rw [← hm] at hc ⊢
   have g3 : (xs.length : Int) - 1 = (m : Int) := by omega
   have g4 : (m : Int) < (xs.length : Int) := by omega
   have hb32 : nbits x ≤ 32 := nbits_le_of hx1
   obtain ⟨bl, hbl⟩ : ∃ bl, bl = nbits x := ⟨_, rfl⟩
   rw [← hbl] at hb32 ⊢
   have HBL := Lib.hid hbl; clear hbl
   have s1 : IntKind.i64.wrap (32 * (m : Int)) = ((32 * m : Nat) : Int) := by rw [IntKind.wrap_i64]; omega
   have s2 : IntKind.i64.wrap (((32 * m : Nat) : Int) + (bl : Int)) = ((32 * m + bl : Nat) : Int) := by rw [IntKind.wrap_i64]; omega
   have HX1 := Lib.hid hx1; clear hx1
   have HM := Lib.hid hm; clear hm
   go_enter Tryz.func130, Tryz.ntmps130
   go_wp2_with (go_at_call 146; (with_reducible refine (Tryz.bits_Len32 _ _ (by omega) (by have := HX1.out; omega)).mono ?_); rintro e w' ⟨rfl, rfl⟩; rw [Int.toNat_natCast, bitLen_nbits HX1.out, ← HBL.out])
   go_ret
   exact ⟨by go_num, 0, rfl⟩

theorem bits_any (A : Option Addr) (cap : Nat) (xs : List Nat) (w : World) (h : RdL w A xs) (hx : Lim xs) (hl : xs.length ≤ 18) :
 Calls Tryz.prog 106 #[.slice A xs.length cap] w (if rightL xs = true then RetIE (nbits (lval xs)) 0 w else RetIE 0 1 w) := by
 have H := Lib.hid h; clear h
 have HX := Lib.hid hx; clear hx
 cases hr : rightL xs
 · rw [if_neg (by simp)]
   go_enter Tryz.func106, Tryz.ntmps106
   go_wp2_with fail
   refine (right_any A cap xs _ H.out (by omega)).mono ?_
   rintro e w1 ⟨rfl, n, rfl⟩
   rw [hr]
   go_wp2
   go_ret2
   exact ⟨rfl, n, rfl⟩
 · rw [if_pos rfl]
   have ea := Lib.hid ((rightL_iff HX.out).1 hr).1
   go_enter Tryz.func106, Tryz.ntmps106
   go_wp2_with fail
   refine (right_any A cap xs _ H.out (by omega)).mono ?_
   rintro e w1 ⟨rfl, n, rfl⟩
   rw [hr]
   go_wp2_with fail
   refine (size_any A cap xs _ (H.out.drewN n) HX.out hl).mono ?_
   rintro e w1 ⟨rfl, m, rfl⟩
   have es : sizeL xs = nbits (lval xs) := by
    have := sizeL_limbs (lval xs)
    rwa [ea.out] at this
   rw [es]
   go_wp2
   go_ret2
   exact ⟨rfl, _, rfl⟩
end
end Go.Proofs.YtmbbdjpnecjleaaGreat
namespace Go.Proofs.YtmbbdjpnecjleaaGreat
section
set_option maxRecDepth 100000
set_option maxHeartbeats 1000000
open Go.RowKit

def shN (n : Nat) (by_ : Int) : Nat := if 0 ≤ by_ then n * 2 ^ by_.toNat else n / 2 ^ (-by_).toNat

theorem shN_none {n : Nat} {b : Int} (h : n = 0 ∨ (b < 0 ∧ b ≤ -(nbits n : Int))) : shN n b = 0 := by
 unfold shN
 rcases h with rfl | ⟨h1, h2⟩
 · split <;> simp
 · rw [if_neg (by omega)]
   refine Nat.div_eq_of_lt (Nat.lt_of_lt_of_le (nbits_lt n) (Nat.pow_le_pow_right (by decide) (by omega)))
def E512 : Nat := 32 * 16
theorem E512_eq : E512 = 512 := rfl
theorem top_pow : Top = 2 ^ E512 := by unfold Top E512; rw [B32_pow]
theorem shN_over {n : Nat} {b : Int} (h0 : n ≠ 0) (h1 : 0 ≤ b) (h : 512 - (nbits n : Int) < b) : ¬ shN n b < Top := by
 unfold shN
 rw [if_pos h1, top_pow]
 have h2 := nbits_le h0
 have h3 := nbits_pos h0
 have h4 : 2 ^ E512 ≤ 2 ^ (nbits n - 1) * 2 ^ b.toNat := by
  rw [← Nat.pow_add]
  exact Nat.pow_le_pow_right (by decide) (by rw [E512_eq]; omega)
 have h5 : 2 ^ (nbits n - 1) * 2 ^ b.toNat ≤ n * 2 ^ b.toNat := Nat.mul_le_mul_right _ h2
 omega

theorem put_low {u : List Nat} (h : Lim u) {k j s o bit : Nat} (hu : lval u < 2 ^ k) (hj : j = k / 32) (hs : s = k % 32) (ho : o = u.getD j 0) (hl : j < u.length) (hb : bit ≤ 1) :
 o ||| bit * 2 ^ s = o + bit * 2 ^ s ∧ o + bit * 2 ^ s < B32 ∧ lval (u.set j (o + bit * 2 ^ s)) = lval u + bit * 2 ^ k := by
 have hs32 : s < 32 := by omega
 have hk : k = 32 * j + s := by omega
 have ho2 : o < 2 ^ s := by
  rw [ho, limb_get h]
  refine Nat.lt_of_le_of_lt (Nat.mod_le _ _) ?_
  rw [Nat.div_lt_iff_lt_mul (Nat.pow_pos (by decide)), B32_pow, ← Nat.pow_add, Nat.add_comm, ← hk]
  exact hu
 have hb2 : bit * 2 ^ s ≤ 2 ^ s := by
  have := Nat.mul_le_mul_right (2 ^ s) hb
  rwa [Nat.one_mul] at this
 have hlt : o + bit * 2 ^ s < B32 := by
  have h1 : 2 ^ (s + 1) ≤ 2 ^ 32 := Nat.pow_le_pow_right (by decide) (by omega)
  rw [Nat.pow_succ] at h1
  have : B32 = 2 ^ 32 := rfl
  omega
 refine ⟨?_, hlt, ?_⟩
 · have := Nat.two_pow_add_eq_or_of_lt ho2 bit
   rw [Nat.mul_comm bit, Nat.or_comm, Nat.add_comm, this]
 · have hset := lval_set (u := u) (j := j) (o + bit * 2 ^ s) hl
   rw [← ho, Nat.mul_add] at hset
   have e : B32 ^ j * (bit * 2 ^ s) = bit * 2 ^ k := by rw [Nat.mul_left_comm, B32_pow, ← Nat.pow_add, ← hk]
   rw [e] at hset
   omega

structure ShRel (w wr : World) (N up m : Nat) (u : List Nat) : Prop where
 old : Below w.heap.size w wr
 blk : Blk wr w.heap.size 62 (arr limbV u)
 len : u.length = 17
 lim : Lim u
 val : lval u = N % 2 ^ m * 2 ^ up
theorem mod_step (N m : Nat) : N % 2 ^ (m + 1) = N % 2 ^ m + N / 2 ^ m % 2 * 2 ^ m := by
 rw [Nat.pow_succ, Nat.mod_mul, Nat.mul_comm (2 ^ m)]

theorem sh_done {n i0 up m : Nat} {b : Int} (hi0 : i0 = (-b).toNat) (hup : up = b.toNat) (h : n < 2 ^ (i0 + m)) : n / 2 ^ i0 % 2 ^ m * 2 ^ up = shN n b := by
 have hlt : n / 2 ^ i0 < 2 ^ m := by
  rw [Nat.div_lt_iff_lt_mul (Nat.pow_pos (by decide)), Nat.mul_comm, ← Nat.pow_add]
  exact h
 rw [Nat.mod_eq_of_lt hlt]
 unfold shN
 by_cases hb : 0 ≤ b
 · have e : i0 = 0 := by omega
   rw [if_pos hb, e, Nat.pow_zero, Nat.div_one, hup]
 · have e : up = 0 := by omega
   rw [if_neg hb, e, Nat.pow_zero, Nat.mul_one, hi0]

theorem shift_go (A : Option Addr) (cap : Nat) (n i0 up : Nat) (b : Int) (w : World) (h : RdL w A (limbs n)) (hn : n < Top) (hn0 : n ≠ 0)
 (hi0 : i0 = (-b).toNat) (hup : up = b.toNat) (h1 : i0 < nbits n) (h2 : nbits n + up ≤ 512 + i0) (h3 : -1000 ≤ b) (h4 : b ≤ 1000) :
 Calls Tryz.prog 86 #[.slice A (limbs n).length cap, .int .i64 b] w (RetNE (shN n b) 0 w) := by
 have hl := limbs_len16 hn
 have H := Lib.hid h; clear h
 have HN := Lib.hid hn; clear hn
 have hnb := nbits_pos hn0
 have hnb2 : nbits n ≤ 512 := Nat.le_trans (nbits_le_of (k := E512) (by rw [← top_pow]; exact HN.out)) (by rw [E512_eq]; exact Nat.le_refl _)
 obtain ⟨L, hL⟩ : ∃ L, L = nbits n := ⟨_, rfl⟩
 rw [← hL] at hnb hnb2 h1 h2
 have g0 : ((L : Int) == 0) = false := beq_eq_false_iff_ne.2 (by omega)
 have g1 : decide (b ≤ -(L : Int)) = false := decide_eq_false (by omega)
 have g1' : ¬ b ≤ -(L : Int) := by omega
 have g2 : ¬ 512 - (L : Int) < b := by omega
 have hmk : ∀ W, (Instr.makeSlice 23 (.int .i64 17) (.int .i64 17)).run Tryz.prog W = .ok (.slice (some ⟨W.heap.size, 0, none⟩) 17 17) (W.alloc (.cells (arr limbV (List.replicate 17 0)) 62)) := fun W => run_mk (P := Tryz.prog) limbV 0 23 62 4 (by kernel_rfl) info_u32 rfl 17 (by omega) (by omega) W
 have hmax : ∀ W, (Builtin.max_ #[3, 3] 3 #[.int .i64 0, .int .i64 (-b)]).run Tryz.prog W = .ok (.int .i64 (i0 : Int)) W := fun W => by
  rw [run_max_int2, hi0]
  congr 2
  split <;> omega
 have HLb := Lib.hid (And.intro hL (And.intro hi0 (And.intro hup hn0))); clear hL hi0 hup hn0
 go_enter Tryz.func86, Tryz.ntmps86
 go_wp2_with fail
 refine (size_any A cap (limbs n) _ H.out (limbs_lim n) (by omega)).mono ?_
 rintro e w1 ⟨rfl, m1, rfl⟩
 rw [sizeL_limbs, ← HLb.out.1]
 go_wp2_with fail
 refine (right_any A cap (limbs n) _ (H.out.drewN m1) (by omega)).mono ?_
 rintro e w1 ⟨rfl, m2, rfl⟩
 rw [rightL_limbs HN.out]
 go_wp2
 all_goals
  go_loopw [8, 9] (fun i _ wr => ∃ (m : Nat) (u : List Nat), i = .int .i64 ((i0 + m : Nat) : Int) ∧ i0 + m ≤ L ∧ ShRel w wr (n / 2 ^ i0) up m u) (fun i _ _ => L - (intOf i).toNat)
  case atStart =>
   refine ⟨0, List.replicate 17 0, rfl, by omega, bel_alloc (bel_drewN (bel_refl _) _) _, Blk.new (w.drewN (m1 + m2)) _ _, by rw [List.length_replicate], ?_, ?_⟩
   · intro x hx; rw [List.eq_of_mem_replicate hx]; decide
   · rw [Nat.pow_zero, Nat.mod_one, Nat.zero_mul]
     exact val_zeros _ _ (fun x hx => List.eq_of_mem_replicate hx)
  case round =>
   obtain ⟨m, u, rfl, hm, hrel⟩ := hrel
   have HA := Lib.hid hrel; clear hrel
   obtain ⟨i, hi⟩ : ∃ i, i = i0 + m := ⟨_, rfl⟩
   rw [← hi] at hm ⊢
   by_cases hlt : i < L
   · have hlt' : (i : Int) < (L : Int) := by omega
     have RX := Lib.hid (H.out.below HA.out.old)
     obtain ⟨k, hk⟩ : ∃ k, k = m + up := ⟨_, rfl⟩
     have sk : IntKind.i64.wrap ((i : Int) + b) = (k : Int) := by rw [IntKind.wrap_i64]; have := HLb.out; omega
     have hk512 : k < 512 := by omega
     have hi512 : i < 512 := by omega
     obtain ⟨j, hj⟩ : ∃ j, j = i / 32 := ⟨_, rfl⟩
     obtain ⟨s, hs⟩ : ∃ s, s = i % 32 := ⟨_, rfl⟩
     obtain ⟨j', hj'⟩ : ∃ j', j' = k / 32 := ⟨_, rfl⟩
     obtain ⟨s', hs'⟩ : ∃ s', s' = k % 32 := ⟨_, rfl⟩
     have hjl : j < (limbs n).length := by
      have hpw : ¬ n < 2 ^ i := fun hh => by
       have := nbits_le_of hh
       rw [← HLb.out.1] at this
       omega
      have h5 : ¬ (limbs n).length ≤ j := fun hh => hpw (by
       have h6 := limbs_len.1 hh
       rw [B32_pow] at h6
       exact Nat.lt_of_lt_of_le h6 (Nat.pow_le_pow_right (by decide) (by omega)))
      omega
     obtain ⟨g, off, rfl, hg, hcell⟩ := RX.out.at_ hjl
     obtain ⟨x, hx⟩ : ∃ x, x = (limbs n).getD j 0 := ⟨_, rfl⟩
     have hx1 := (limbs_lim n).get j
     rw [← hx] at hcell hx1
     have Ex := Lib.hid hx; clear hx
     have sj : (i : Int) / 32 = (j : Int) := by omega
     have ss : (i : Int) % 32 = (s : Int) := by omega
     have sj' : (k : Int) / 32 = (j' : Int) := by omega
     have ss' : (k : Int) % 32 = (s' : Int) := by omega
     have hjl' : (j : Int) < ((limbs n).length : Int) := by omega
     have hj17 : (j' : Int) < 17 := by omega
     obtain ⟨bit, hbit⟩ : ∃ bit, bit = x / 2 ^ s % 2 := ⟨_, rfl⟩
     have sbit : bits BinOp.and IntKind.u32 ((x : Int) / 2 ^ s) 1 = (bit : Int) := by
      rw [hbit, ← and_one (x / 2 ^ s) (Nat.lt_of_le_of_lt (Nat.div_le_self _ _) hx1)]
      congr 1
     have ebit : Hid (bit = n / 2 ^ i0 / 2 ^ m % 2) := by
      show bit = _
      have := bit_at (limbs_lim n) i
      rw [lval_limbs, ← hj, ← hs, ← Ex.out, ← hbit] at this
      rw [← this, hi, Nat.pow_add, Nat.div_div_eq_div_mul]
     have hcq := HA.out.blk.at_ 0 (k := j') (by rw [HA.out.len]; omega)
     obtain ⟨o, ho⟩ : ∃ o, o = u.getD j' 0 := ⟨_, rfl⟩
     rw [← ho, limbV_eq] at hcq
     have hfz : wr.frozen? ⟨w.heap.size, j', none⟩ = false := HA.out.blk.frozen j'
     have HS := Lib.hid (And.intro hj' (And.intro hs' (And.intro ho (And.intro hbit (And.intro hk hi))))); clear hj hs hj' hs' hbit hx1 ho hk hi
     go_wp2
     go_region
     go_wp2
     go_roundw
     case rel =>
      obtain ⟨hj', hs', ho, hbit, hk, hi⟩ := HS.out
      have hb1 : bit ≤ 1 := by omega
      have hu : lval u < 2 ^ k := by
       rw [HA.out.val, hk, Nat.pow_add]
       exact Nat.mul_lt_mul_of_pos_right (Nat.mod_lt _ (Nat.pow_pos (by decide))) (Nat.pow_pos (by decide))
      obtain ⟨p1, p2, p3⟩ := put_low HA.out.lim hu hj' hs' ho (by rw [HA.out.len]; omega) hb1
      have ho1 : o < 4294967296 := by rw [ho]; exact HA.out.lim.get j'
      have hbs : bit * 2 ^ s' < 4294967296 := by have e := B32_eq; omega
      have ev : bits BinOp.or IntKind.u32 (o : Int) ((bit : Int) * 2 ^ s' % 4294967296) = ((o + bit * 2 ^ s' : Nat) : Int) := by
       rw [← p1, ← u32_or_nat o (bit * 2 ^ s') ho1 hbs]
       congr 1
       have h8 : ((bit : Int) * 2 ^ s') = ((bit * 2 ^ s' : Nat) : Int) := by rw [Int.natCast_mul, Int.natCast_pow]; rfl
       rw [h8]
       omega
      rw [ev]
      refine ⟨m + 1, u.set j' (o + bit * 2 ^ s'), by rw [hi]; go_num, by omega, ?_⟩
      refine ⟨(HA.out.old.setCell (Nat.le_refl _) _).drew, (HA.out.blk.set_ _ _).drew, by rw [List.length_set]; exact HA.out.len, HA.out.lim.set _ p2, ?_⟩
      rw [p3, HA.out.val, mod_step, ← ebit.out, Nat.add_mul, hk, Nat.pow_add, Nat.mul_assoc]
     case measure => simp [intOf]; omega
   · have HU : Hid (lval u = shN n b) := by
      obtain ⟨hL, hi0, hup, hn0⟩ := HLb.out
      show lval u = _
      rw [HA.out.val]
      exact sh_done hi0 hup (by rw [show i0 + m = nbits n by omega]; exact nbits_lt n)
     have R9 : Hid (RdL wr (some ⟨w.heap.size, 0, none⟩) u) := HA.out.blk.rd 0 _ (Nat.le_refl _)
     go_wp2_with fail
     have hf := trim_N (some ⟨w.heap.size, 0, none⟩) 17 u _ R9.out HA.out.lim (by rw [HA.out.len]; exact Nat.le_refl _) (by rw [HA.out.len]; omega)
     rw [HA.out.len, HU.out] at hf
     refine hf.mono ?_
     rintro e w2 ⟨v2, rfl, hn2, hb2⟩
     have HN2 := Lib.hid hn2; clear hn2
     have HB2 := Lib.hid hb2; clear hb2
     go_wp2
     go_ret2
     exact ⟨_, rfl, HN2.out, bel_trans HA.out.old HB2.out⟩

theorem shift_none (A : Option Addr) (cap n : Nat) (b : Int) (w : World) (h : RdL w A (limbs n)) (hn : n < Top) (hz : n = 0 ∨ (n ≠ 0 ∧ b < 0 ∧ b ≤ -(nbits n : Int))) :
 Calls Tryz.prog 86 #[.slice A (limbs n).length cap, .int .i64 b] w (RetNE 0 0 w) := by
 have hl := limbs_len16 hn
 have H := Lib.hid h; clear h
 have HN := Lib.hid hn; clear hn
 have hnb2 : nbits n ≤ 512 := Nat.le_trans (nbits_le_of (k := E512) (by rw [← top_pow]; exact HN.out)) (by rw [E512_eq]; exact Nat.le_refl _)
 have hz' : (nbits n = 0) ∨ (nbits n ≠ 0 ∧ b < 0 ∧ b ≤ -(nbits n : Int)) := by
  rcases hz with rfl | ⟨h0, h1, h2⟩
  · exact .inl rfl
  · exact .inr ⟨by have := nbits_pos h0; omega, h1, h2⟩
 clear hz
 obtain ⟨L, hL⟩ : ∃ L, L = nbits n := ⟨_, rfl⟩
 rw [← hL] at hnb2 hz'
 have HL := Lib.hid hL; clear hL
 rcases hz' with h0 | ⟨h0, h1, h2⟩
 · have g0 : ((L : Int) == 0) = true := by rw [h0]; rfl
   go_enter Tryz.func86, Tryz.ntmps86
   go_wp2_with fail
   refine (size_any A cap (limbs n) _ H.out (limbs_lim n) (by omega)).mono ?_
   rintro e w1 ⟨rfl, m1, rfl⟩
   rw [sizeL_limbs, ← HL.out]
   go_wp2_with fail
   refine (right_any A cap (limbs n) _ (H.out.drewN m1) (by omega)).mono ?_
   rintro e w1 ⟨rfl, m2, rfl⟩
   rw [rightL_limbs HN.out]
   go_wp2
   go_ret2
   exact ⟨_, rfl, RdN.zero, bel_drewN (bel_refl _) _⟩
 · have g0 : ((L : Int) == 0) = false := beq_eq_false_iff_ne.2 (by omega)
   go_enter Tryz.func86, Tryz.ntmps86
   go_wp2_with fail
   refine (size_any A cap (limbs n) _ H.out (limbs_lim n) (by omega)).mono ?_
   rintro e w1 ⟨rfl, m1, rfl⟩
   rw [sizeL_limbs, ← HL.out]
   go_wp2_with fail
   refine (right_any A cap (limbs n) _ (H.out.drewN m1) (by omega)).mono ?_
   rintro e w1 ⟨rfl, m2, rfl⟩
   rw [rightL_limbs HN.out]
   go_wp2
   all_goals
    go_ret2
    exact ⟨_, rfl, RdN.zero, bel_drewN (bel_refl _) _⟩

theorem shift_over (A : Option Addr) (cap n : Nat) (b : Int) (w : World) (h : RdL w A (limbs n)) (hn : n < Top) (hn0 : n ≠ 0) (hb0 : 0 ≤ b) (hb : 512 - (nbits n : Int) < b) :
 Calls Tryz.prog 86 #[.slice A (limbs n).length cap, .int .i64 b] w (RetNE 0 2 w) := by
 have hl := limbs_len16 hn
 have H := Lib.hid h; clear h
 have HN := Lib.hid hn; clear hn
 have hnb2 : nbits n ≤ 512 := Nat.le_trans (nbits_le_of (k := E512) (by rw [← top_pow]; exact HN.out)) (by rw [E512_eq]; exact Nat.le_refl _)
 have hnb := nbits_pos hn0
 obtain ⟨L, hL⟩ : ∃ L, L = nbits n := ⟨_, rfl⟩
 rw [← hL] at hnb hnb2 hb
 have HL := Lib.hid hL; clear hL
 have g0 : ((L : Int) == 0) = false := beq_eq_false_iff_ne.2 (by omega)
 have g1 : ¬ b < 0 := by omega
 go_enter Tryz.func86, Tryz.ntmps86
 go_wp2_with fail
 refine (size_any A cap (limbs n) _ H.out (limbs_lim n) (by omega)).mono ?_
 rintro e w1 ⟨rfl, m1, rfl⟩
 rw [sizeL_limbs, ← HL.out]
 go_wp2_with fail
 refine (right_any A cap (limbs n) _ (H.out.drewN m1) (by omega)).mono ?_
 rintro e w1 ⟨rfl, m2, rfl⟩
 rw [rightL_limbs HN.out]
 go_wp2
 go_ret2
 exact ⟨_, rfl, RdN.zero, bel_drewN (bel_refl _) _⟩

theorem shN_small {n : Nat} {b : Int} (h : b ≤ 512 - (nbits n : Int)) (hn : n < Top) : shN n b < Top := by
 have hnb2 : nbits n ≤ 512 := Nat.le_trans (nbits_le_of (k := E512) (by rw [← top_pow]; exact hn)) (by rw [E512_eq]; exact Nat.le_refl _)
 unfold shN
 split
 · rw [top_pow]
   have h1 := nbits_lt n
   have h2 : n * 2 ^ b.toNat < 2 ^ nbits n * 2 ^ b.toNat := Nat.mul_lt_mul_of_pos_right h1 (Nat.pow_pos (by decide))
   refine Nat.lt_of_lt_of_le h2 ?_
   rw [← Nat.pow_add]
   exact Nat.pow_le_pow_right (by decide) (by rw [E512_eq]; omega)
 · exact Nat.lt_of_le_of_lt (Nat.div_le_self _ _) hn

theorem shift_right (A : Option Addr) (cap n : Nat) (b : Int) (w : World) (h : RdL w A (limbs n)) (hn : n < Top) :
 Calls Tryz.prog 86 #[.slice A (limbs n).length cap, .int .i64 b] w (RetNE (fitN (shN n b)) (fitC (shN n b)) w) := by
 have hnb2 : nbits n ≤ 512 := Nat.le_trans (nbits_le_of (k := E512) (by rw [← top_pow]; exact hn)) (by rw [E512_eq]; exact Nat.le_refl _)
 by_cases hz : n = 0 ∨ (n ≠ 0 ∧ b < 0 ∧ b ≤ -(nbits n : Int))
 · have e := shN_none (n := n) (b := b) (by rcases hz with h | ⟨_, h⟩; exact .inl h; exact .inr h)
   rw [e]
   exact shift_none A cap n b w h hn hz
 · have hn0 : n ≠ 0 := fun e => hz (.inl e)
   have hz2 : ¬ (b < 0 ∧ b ≤ -(nbits n : Int)) := fun e => hz (.inr ⟨hn0, e⟩)
   have hp := nbits_pos hn0
   by_cases ho : 512 - (nbits n : Int) < b
   · have e := shN_over hn0 (by omega) ho
     unfold fitN fitC
     rw [if_neg e, if_neg e]
     exact shift_over A cap n b w h hn hn0 (by omega) ho
   · have e := shN_small (n := n) (b := b) (by omega) hn
     unfold fitN fitC
     rw [if_pos e, if_pos e]
     exact shift_go A cap n (-b).toNat b.toNat b w h hn hn0 rfl rfl (by omega) (by omega) (by omega) (by omega)
end
end Go.Proofs.YtmbbdjpnecjleaaGreat
namespace Go.Proofs.YtmbbdjpnecjleaaGreat
section
set_option maxRecDepth 100000
set_option maxHeartbeats 1000000
open Go.RowKit

theorem RdL.src {w : World} {A : Option Addr} {xs : List Nat} (h : RdL w A xs) : Rd w A (xs.length * 1) (fun k => (nums .u32 xs).getD k undef) := by
 rw [Nat.mul_one]
 exact Rd.congr h fun k hk => (nums_get .u32 xs hk).symm
theorem nums_one (K : IntKind) (xs : List Nat) : ∀ u ∈ nums K xs, u.oneCell' = true := by
 intro u hu
 obtain ⟨x, _, rfl⟩ := List.mem_map.1 hu
 rfl

def RetOwnL (xs : List Nat) (w : World) (e : Ending) (w' : World) : Prop :=
 ∃ A cap, e = .returned (.slice A xs.length cap) ∧ xs.length ≤ cap ∧ w'.ownsRow w.heap.size 62 1 (.slice A xs.length cap) xs.length (nums .u32 xs) ∧ Below w.heap.size w w'

theorem clone_any (A : Option Addr) (cap : Nat) (xs : List Nat) (w : World) (hl : xs.length ≤ 1000) (h : RdL w A xs) :
 Calls Tryz.prog 139 #[.slice A xs.length cap] w (RetOwnL xs w) := by
 have H := Lib.hid h; clear h
 have he := fun W B n c => Lib.run_eql_slice_nil (P := Tryz.prog) W 23 62 B n c 0 0 (by kernel_rfl)
 cases A with
 | none =>
  have h0 : xs = [] := by
   rcases Nat.eq_zero_or_pos xs.length with h0 | h0
   · exact List.eq_nil_of_length_eq_zero h0
   · obtain ⟨_, _, e, _⟩ := H.out h0; cases e
  subst h0
  go_enter Tryz.func139, Tryz.ntmps139
  go_wp2
  go_ret
  exact ⟨none, 0, rfl, Nat.le_refl _, own_nil _ _ _ _, bel_refl _⟩
 | some a =>
  go_enter Tryz.func139, Tryz.ntmps139
  go_wp2_with (at_builtin; refine wpList_app _ rfl _ _ 23 rfl w.heap.size 62 (.int .u32 0) 1 4 (by kernel_rfl) info_u32 rfl (by decide) _ 0 [] rfl _ xs.length cap (nums .u32 xs) rfl ?c0 (nums_one _ _) ?own ?rd ?c1 ?c2 ?c3 ?_)
  case c0 => rw [nums_len, Nat.mul_one]
  case own => exact own_empty _ _ _ _ (Nat.le_refl _)
  case rd => exact RdL.src (RdL.below H.out (bel_alloc (bel_refl _) _))
  case c1 => unfold maxLen; omega
  case c2 => omega
  case c3 => simp
  intro v' w2 hown hgr hbel
  obtain ⟨A', cap', rfl, hc, _, _⟩ := own_rdL hown (by omega)
  have HO := Lib.hid hown; clear hown
  have HB := Lib.hid hbel; clear hbel
  clear hgr
  go_wp2
  go_ret
  refine ⟨A', cap', rfl, hc, ?_, (bel_alloc (bel_refl _) _).trans HB.out⟩
  simpa using HO.out

structure RevRel (base : Nat) (w wr : World) (g n cap : Nat) (ds : List Nat) (k : Nat) (u : List Nat) : Prop where
 le : 2 * k ≤ n
 old : Below base w wr
 own : wr.ownsRow base 5 1 (.slice (some ⟨g, 0, none⟩) n cap) n (nums .u8 u)
 len : u.length = n
 get : ∀ j, j < n → u.getD j 0 = if j < k ∨ n - k ≤ j then ds.getD (n - 1 - j) 0 else ds.getD j 0

theorem RevRel.done {base : Nat} {w wr : World} {g n cap : Nat} {ds : List Nat} {k : Nat} {u : List Nat} (h : RevRel base w wr g n cap ds k u) (hd : ds.length = n) (hk : n ≤ 2 * k + 1) : u = ds.reverse := by
 apply List.ext_getElem?
 intro j
 by_cases hj : j < n
 · have hg := h.get j hj
   have hju : j < u.length := by rw [h.len]; exact hj
   have hjr : j < ds.reverse.length := by rw [List.length_reverse, hd]; exact hj
   have hjd : n - 1 - j < ds.length := by omega
   rw [List.getElem?_eq_getElem hju, List.getElem?_eq_getElem hjr, List.getElem_reverse]
   congr 1
   have e1 : u.getD j 0 = u[j] := by rw [List.getD_eq_getElem?_getD, List.getElem?_eq_getElem hju]; rfl
   have e2 : ds.getD (n - 1 - j) 0 = ds[ds.length - 1 - j] := by
    rw [List.getD_eq_getElem?_getD, List.getElem?_eq_getElem hjd]
    simp [hd]
   rw [← e1, hg, ← e2]
   by_cases hc : j < k ∨ n - k ≤ j
   · rw [if_pos hc]
   · rw [if_neg hc]
     congr 1
     omega
 · rw [List.getElem?_eq_none (by rw [h.len]; omega), List.getElem?_eq_none (by rw [List.length_reverse, hd]; omega)]

theorem getD_set_at {u : List Nat} {j : Nat} (v : Nat) (h : j < u.length) : (u.set j v).getD j 0 = v := by
 rw [List.getD_eq_getElem?_getD, List.getElem?_set_self h]
 rfl
theorem RevRel.step {base : Nat} {w wr w' : World} {g n cap : Nat} {ds : List Nat} {k : Nat} {u : List Nat} (h : RevRel base w wr g n cap ds k u) (hk : 2 * k + 1 < n) (hold : Below base w w')
 (hown : w'.ownsRow base 5 1 (.slice (some ⟨g, 0, none⟩) n cap) n (nums .u8 ((u.set k (u.getD (n - 1 - k) 0)).set (n - 1 - k) (u.getD k 0)))) :
 RevRel base w w' g n cap ds (k + 1) ((u.set k (u.getD (n - 1 - k) 0)).set (n - 1 - k) (u.getD k 0)) := by
 have hl := h.len
 refine ⟨by omega, hold, hown, by simp [hl], fun j hj => ?_⟩
 by_cases h1 : j = n - 1 - k
 · subst h1
   rw [getD_set_at _ (by rw [List.length_set]; omega), if_pos (by omega), h.get k (by omega), if_neg (by omega)]
   congr 1
   omega
 · rw [getD_set_far _ (fun e => h1 e.symm)]
   by_cases h2 : j = k
   · subst h2
     rw [getD_set_at _ (by omega), if_pos (by omega), h.get _ (by omega), if_neg (by omega)]
   · rw [getD_set_far _ (fun e => h2 e.symm), h.get j hj]
     by_cases h3 : j < k ∨ n - k ≤ j
     · rw [if_pos h3, if_pos (by omega)]
     · rw [if_neg h3, if_neg (by omega)]

def RetRev (base g n cap : Nat) (ds : List Nat) (w : World) (e : Ending) (w' : World) : Prop :=
 e = .returned (.tuple #[]) ∧ w'.ownsRow base 5 1 (.slice (some ⟨g, 0, none⟩) n cap) n (nums .u8 ds.reverse) ∧ Below base w w'

theorem reverse_any (base g n cap : Nat) (ds : List Nat) (w : World) (hn : n ≤ 1000000) (hd : ds.length = n)
 (h : w.ownsRow base 5 1 (.slice (some ⟨g, 0, none⟩) n cap) n (nums .u8 ds)) :
 Calls Tryz.prog 140 #[.slice (some ⟨g, 0, none⟩) n cap] w (RetRev base g n cap ds w) := by
 have H := Lib.hid h; clear h
 have HD := Lib.hid hd; clear hd
 go_enter Tryz.func140, Tryz.ntmps140
 go_wp2
 go_loopw [2, 3] (fun i j wr => ∃ (k : Nat) (u : List Nat), i = .int .i64 (k : Int) ∧ j = .int .i64 ((n : Int) - 1 - k) ∧ RevRel base w wr g n cap ds k u) (fun i _ _ => n - 2 * (intOf i).toNat)
 case atStart =>
  refine ⟨0, ds, rfl, by simp, by omega, Below.refl _ _, H.out, HD.out, fun j hj => ?_⟩
  rw [if_neg (by omega)]
 case round =>
  obtain ⟨k, u, rfl, rfl, hrel⟩ := hrel
  have HR := Lib.hid hrel; clear hrel
  have hle := HR.out.le
  by_cases hlt : 2 * k + 1 < n
  · obtain ⟨j, hj⟩ : ∃ j, j = n - 1 - k := ⟨_, rfl⟩
    have hjz : (n : Int) - 1 - k = (j : Int) := by omega
    rw [hjz]
    obtain ⟨c1, f1, b1, b2⟩ := own_at HR.out.own (k := k) (by omega)
    obtain ⟨c2, f2, _, _⟩ := own_at HR.out.own (k := j) (by omega)
    rw [nums_get _ _ (by rw [HR.out.len]; omega)] at c1 c2
    obtain ⟨x, hx⟩ : ∃ x, x = u.getD k 0 := ⟨_, rfl⟩
    obtain ⟨y, hy⟩ : ∃ y, y = u.getD j 0 := ⟨_, rfl⟩
    rw [← hx] at c1
    rw [← hy] at c2
    have g1 : (k : Int) < (j : Int) := by omega
    have g2 : (j : Int) < (n : Int) := by omega
    have g3 : (k : Int) < (n : Int) := by omega
    have hkj : k ≠ j := by omega
    have HS := Lib.hid (And.intro hj (And.intro hx hy)); clear hj hx hy
    go_wp2
    go_region
    go_wp2
    go_roundw
    case rel =>
     obtain ⟨hj, hx, hy⟩ := HS.out
     subst hx hy
     subst hj
     refine ⟨k + 1, _, by go_num, by go_num, HR.out.step hlt ((HR.out.old.setCell b1 _).setCell b1 _).drew ?_⟩
     have h1 := own_put (own_put HR.out.own k (.int .u8 (u.getD (n - 1 - k) 0 : Nat))) (n - 1 - k) (.int .u8 (u.getD k 0 : Nat))
     rw [nums_set, nums_set] at h1
     exact own_below h1 (Below.refl _ _).drew
    case measure => simp [intOf]; omega
  · have hdone := HR.out.done HD.out (by omega)
    go_wp2
    go_end0
    refine ⟨rfl, ?_, HR.out.old⟩
    rw [← hdone]
    exact HR.out.own
end
end Go.Proofs.YtmbbdjpnecjleaaGreat
namespace Go.Proofs.YtmbbdjpnecjleaaGreat
section
set_option maxRecDepth 100000
set_option maxHeartbeats 1000000
open Go.RowKit

def bytesOf (ds : List Nat) : ByteArray := ⟨(ds.map UInt8.ofNat).toArray⟩
theorem bytesOf_size (ds : List Nat) : (bytesOf ds).size = ds.length := by simp [bytesOf, ByteArray.size]
theorem foldl_push (ns : List Int) (s : ByteArray) : ns.foldl (fun r n => r.push (UInt8.ofNat n.toNat)) s = ⟨(s.data.toList ++ ns.map (fun n => UInt8.ofNat n.toNat)).toArray⟩ := by
 induction ns generalizing s with
 | nil => simp
 | cons n r ih =>
  rw [List.foldl_cons, ih]
  simp [ByteArray.push]
theorem run_str {P : Program} (w : World) (src dst e : TypeId) (A : Option Addr) (cap : Nat) (ds : List Nat) (h0 : 0 < ds.length)
 (hs : P.underlying src = some (.slice e)) (he : P.underlying e = some (.int .u8)) (hd : P.underlying dst = some .string)
 (h : Rd w A ds.length (fun k => .int .u8 (ds.getD k 0 : Nat))) :
 (convert src dst (.slice A ds.length cap)).run P w = .ok (.string (bytesOf ds)) w := by
 obtain ⟨b, off, rfl, _, hc⟩ := h h0
 rw [run_convert_bytes_string w src dst e _ _ _ hs he hd]
 rw [run_bytesToString w _ _ _ (ds.map (fun d : Nat => (d : Int)))]
 · rw [foldl_push]
   congr 2
   simp [bytesOf]
 · have hh := run_loadCells_list (P := P) (w := w) ⟨b, off, none⟩ ((ds.map (fun d : Nat => (d : Int))).map (Value.int .u8)) (fun j v hv => by
    have hj : j < ds.length := by have := (List.getElem?_eq_some_iff.1 hv).1; simpa using this
    have := hc j hj
    have e : (⟨b, off, none⟩ : Addr).add j = ⟨b, off + j, none⟩ := by unfold Addr.add; split <;> simp_all
    rw [e, this, ← hv]
    simp [hj])
   simpa using hh

def decL (n : Nat) : List Nat := if n = 0 then [0] else (digs 10 n).reverse
def chrs (ds : List Nat) : List Nat := ds.map (fun d => 48 + d)
def dec (n : Nat) : ByteArray := bytesOf (chrs (decL n))
theorem dec_zero : dec 0 = ⟨#[48]⟩ := rfl
theorem decL_pos {n : Nat} (h : n ≠ 0) : decL n = (digs 10 n).reverse := if_neg h
theorem decL_len_pos (n : Nat) : 0 < (decL n).length := by
 unfold decL
 split
 · simp
 · rename_i h
   rw [List.length_reverse]
   exact digs_len_pos (by decide) h
theorem decL_lt (n : Nat) : ∀ d ∈ decL n, d < 10 := by
 unfold decL
 split
 · intro d hd; simp at hd; omega
 · intro d hd
   exact digs_lt (by decide) n d (List.mem_reverse.1 hd)
theorem decL_get (n i : Nat) (h : i < (decL n).length) : (decL n).getD ((decL n).length - 1 - i) 0 = n / 10 ^ i % 10 := by
 by_cases h0 : n = 0
 · subst h0
   have : i = 0 := by simp [decL] at h; omega
   subst this
   rfl
 · rw [decL_pos h0] at h ⊢
   rw [← digs_get (b := 10) (by decide) n i]
   rw [List.length_reverse] at h ⊢
   rw [List.getD_eq_getElem?_getD, List.getD_eq_getElem?_getD, List.getElem?_reverse (by omega)]
   congr 2
   omega
theorem decL_out (n i : Nat) (h : (decL n).length ≤ i) : n / 10 ^ i = 0 := by
 by_cases h0 : n = 0
 · subst h0; simp
 · rw [decL_pos h0, List.length_reverse] at h
   exact Nat.div_eq_of_lt ((digs_len_le (by decide)).1 h)
theorem decL_in (n i : Nat) (h : i < (decL n).length) (h0 : n ≠ 0) : n / 10 ^ i ≠ 0 := fun e => by
 rw [decL_pos h0, List.length_reverse] at h
 have : n < 10 ^ i := by
  have hp : 0 < 10 ^ i := Nat.pow_pos (by decide)
  exact (Nat.div_eq_zero_iff_lt hp).1 e
 have := (digs_len_le (b := 10) (by decide)).2 this
 omega
end
end Go.Proofs.YtmbbdjpnecjleaaGreat
