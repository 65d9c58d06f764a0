/-
 Parts: QA.
-/
import Derived.Test.YtmbbdjpnecjleaaGreatH08
import Derived.Laws.ResultCell
namespace Go.Proofs.YtmbbdjpnecjleaaGreat
section
set_option maxRecDepth 100000
set_option maxHeartbeats 1000000
section
open Go.RowKit

theorem dec_is0 (k : Nat) : ((dec k).toList == [48]) = decide (k = 0) := by
 rw [← dec_beq, dec_zero, ByteArray.toList_eq ⟨#[48]⟩]
theorem dec_is1 (k : Nat) : ((dec k).toList == [49]) = decide (k = 1) := by
 rw [← dec_beq, dec_one, ByteArray.toList_eq ⟨#[49]⟩]

theorem equal_any (A A' : Option Addr) (cap cap' : Nat) (xs ys : List Nat) (w : World) (h : RdL w A xs) (h' : RdL w A' ys) (hl : xs.length ≤ 100000) :
 Calls Tryz.prog 63 #[.slice A xs.length cap, .slice A' ys.length cap'] w (RetBD (decide (xs = ys)) w) := by
 have H := Lib.hid h; clear h
 have H' := Lib.hid h'; clear h'
 by_cases hlen : xs.length = ys.length
 · have q1 : ((xs.length : Int) != (ys.length : Int)) = false := by rw [hlen]; simp
   have HL := Lib.hid hlen; clear hlen
   go_enter Tryz.func63, Tryz.ntmps63
   go_wp2
   go_loopw [13] (fun iv wr => ∃ k : Nat, iv = .int .i64 (k : Int) ∧ k ≤ xs.length ∧ xs.take k = ys.take k ∧ ∃ n, wr = w.drewN n) (fun i _ => xs.length - (intOf i).toNat)
   case atStart => exact ⟨0, rfl, Nat.zero_le _, rfl, 0, rfl⟩
   case round =>
    obtain ⟨k, rfl, hk, hrel, n, rfl⟩ := hrel
    have HR := Lib.hid hrel; clear hrel
    by_cases hlt : k < xs.length
    · have hlt2 : k < ys.length := by rw [← HL.out]; exact hlt
      have hlt' : (k : Int) < (xs.length : Int) := by omega
      have hlt3 : (k : Int) < (ys.length : Int) := by omega
      obtain ⟨g, off, rfl, hg, hc1⟩ := H.out.at_ hlt
      obtain ⟨g', off', rfl, hg', hc2⟩ := H'.out.at_ hlt2
      obtain ⟨x, hx⟩ : ∃ x, x = xs.getD k 0 := ⟨_, rfl⟩
      obtain ⟨y, hy⟩ : ∃ y, y = ys.getD k 0 := ⟨_, rfl⟩
      rw [← hx] at hc1
      rw [← hy] at hc2
      have hx' : x = xs[k] := by rw [hx, List.getD_eq_getElem?_getD, List.getElem?_eq_getElem hlt]; rfl
      have hy' : y = ys[k] := by rw [hy, List.getD_eq_getElem?_getD, List.getElem?_eq_getElem hlt2]; rfl
      have HX := Lib.hid (And.intro hx' hy'); clear hx hy hx' hy'
      go_wp2
      go_quiet (fail)
      go_wp2
      · have hne : ((x : Int) != (y : Int)) = true := by assumption
        go_ret
        refine ⟨ret_bool ?_, _, World.drewN_drewN _ _ _⟩
        refine (decide_eq_false fun he => ?_).symm
        obtain ⟨hx', hy'⟩ := HX.out
        subst he
        rw [hx', hy'] at hne
        simp at hne
      · have heq : ((x : Int) != (y : Int)) = false := by assumption
        go_roundw
        case rel =>
         obtain ⟨hx', hy'⟩ := HX.out
         have hxy : xs[k] = ys[k] := by rw [← hx', ← hy']; simp at heq; omega
         exact ⟨k + 1, by go_num, by omega, by rw [List.take_succ_eq_append_getElem hlt, List.take_succ_eq_append_getElem hlt2, HR.out, hxy], _, rfl⟩
        case measure => simp [intOf]; omega
    · have he : xs = ys := by
       have := HR.out
       rwa [List.take_of_length_le (by omega), List.take_of_length_le (by rw [← HL.out]; omega)] at this
      have HE := Lib.hid he; clear he
      go_wp2
      go_ret
      exact ⟨ret_bool (decide_eq_true HE.out).symm, n, rfl⟩
 · have q1 : ((xs.length : Int) != (ys.length : Int)) = true := by simp; omega
   go_enter Tryz.func63, Tryz.ntmps63
   go_wp2
   go_ret
   exact ⟨ret_bool (decide_eq_false fun he => hlen (by rw [he])).symm, 0, rfl⟩

theorem equal_bb (A A' : Option Addr) (cap cap' : Nat) (xs ys : List Nat) (w : World) (h : RdL w A xs) (h' : RdL w A' ys) (hl : xs.length ≤ 18) : Calls Tryz.prog 63 #[.slice A xs.length cap, .slice A' ys.length cap'] w (RetBB (decide (xs = ys)) w) :=
 (equal_any A A' cap cap' xs ys w h h' (by omega)).mono fun _ _ => RetBD.bb
theorem limbs_inj {a b : Nat} : limbs a = limbs b ↔ a = b := ⟨fun h => by rw [← lval_limbs a, h, lval_limbs], fun h => by rw [h]⟩
theorem equal_num (A A' : Option Addr) (cap cap' : Nat) (a b : Nat) (w : World) (h : RdL w A (limbs a)) (h' : RdL w A' (limbs b)) (ha : a < Top) : Calls Tryz.prog 63 #[.slice A (limbs a).length cap, .slice A' (limbs b).length cap'] w (RetBB (decide (a = b)) w) := by
 have := equal_bb A A' cap cap' (limbs a) (limbs b) w h h' (len18 ha)
 rwa [show decide (limbs a = limbs b) = decide (a = b) by rw [decide_eq_decide]; exact limbs_inj] at this

/-! What a slice holds, as a number. -/
theorem RdL.uniq {w : World} {A : Option Addr} {xs ys : List Nat} (h : RdL w A xs) (h' : RdL w A ys) (hl : xs.length = ys.length) : xs = ys := by
 apply List.ext_getElem hl
 intro k hk hk'
 obtain ⟨g, off, rfl, _, hc⟩ := h.at_ hk
 obtain ⟨g', off', he, _, hc'⟩ := h'.at_ hk'
 cases he
 rw [hc] at hc'
 injection hc' with hc'
 injection hc' with _ hc'
 have : xs.getD k 0 = ys.getD k 0 := by omega
 rwa [List.getD_eq_getElem?_getD, List.getD_eq_getElem?_getD, List.getElem?_eq_getElem hk, List.getElem?_eq_getElem hk'] at this
open Classical in
noncomputable def numAt (w : World) (v : Value) : Nat := if h : ∃ n, RdN w v n then h.choose else 0
theorem numAt_is {w : World} {v : Value} {n : Nat} (h : RdN w v n) : numAt w v = n := by
 unfold numAt
 have hx : ∃ n, RdN w v n := ⟨n, h⟩
 rw [dif_pos hx]
 obtain ⟨A, cap, hv, _, hr⟩ := hx.choose_spec
 obtain ⟨A', cap', hv', _, hr'⟩ := h
 rw [hv] at hv'
 injection hv' with h1 h2 h3
 subst h1
 exact limbs_inj.1 (hr.uniq hr' h2)

theorem gcd_turn (x y : Nat) : Nat.gcd y (x % y) = Nat.gcd x y := by rw [Nat.gcd_comm, ← Nat.gcd_rec, Nat.gcd_comm]

structure CoRel (w wr : World) (a b : Nat) (u v : Value) : Prop where
 old : Below w.heap.size w wr
 num : ∃ x y, RdN wr u x ∧ RdN wr v y ∧ x < Top ∧ y < Top ∧ Nat.gcd x y = Nat.gcd a b

theorem limbs_len0 {n : Nat} : ((limbs n).length : Int) = 0 ↔ n = 0 := by
 constructor
 · intro h
   have h' : (limbs n).length = 0 := by omega
   have := List.eq_nil_of_length_eq_zero h'
   rw [← lval_limbs n, this]
   rfl
 · rintro rfl
   rfl
theorem common_num (A A' : Option Addr) (cap cap' : Nat) (a b : Nat) (w : World) (h : RdL w A (limbs a)) (h' : RdL w A' (limbs b)) (hc : (limbs a).length ≤ cap) (hc' : (limbs b).length ≤ cap') (ha : a < Top) (hb : b < Top) :
 Calls Tryz.prog 90 #[.slice A (limbs a).length cap, .slice A' (limbs b).length cap'] w (RetN (Nat.gcd a b) w) := by
 have H := Lib.hid (show CoRel w w a b (.slice A (limbs a).length cap) (.slice A' (limbs b).length cap') from ⟨bel_refl _, a, b, ⟨A, cap, rfl, hc, h⟩, ⟨A', cap', rfl, hc', h'⟩, ha, hb, rfl⟩)
 clear h h' hc hc' ha hb
 go_enter Tryz.func90, Tryz.ntmps90
 go_wp2
 go_loopw [0, 1] (fun u v wr => CoRel w wr a b u v) (fun _ v wr => numAt wr v)
 case atStart => exact H.out
 case round =>
  obtain ⟨hold, x, y, hx, hy, hx1, hy1, hg⟩ := hrel
  have hm := numAt_is hy
  have HM := Lib.hid hm; clear hm
  have HOLD := Lib.hid hold; clear hold
  have HNX := Lib.hid hx
  have HNY := Lib.hid hy
  obtain ⟨A1, c1, rfl, hc1, hr1⟩ := hx
  obtain ⟨A2, c2, rfl, hc2, hr2⟩ := hy
  have R1 := Lib.hid hr1; clear hr1 hc1
  have R2 := Lib.hid hr2; clear hr2 hc2
  have HG := Lib.hid (And.intro hx1 (And.intro hy1 hg)); clear hx1 hy1 hg
  by_cases hy0 : y = 0
  · have hl : ¬ (0 : Int) < ((limbs y).length : Int) := by rw [limbs_len0.2 hy0]; omega
    have HY0 := Lib.hid hy0; clear hy0
    go_wp2
    go_ret
    refine ⟨_, rfl, ?_, HOLD.out⟩
    have hg := HG.out.2.2
    rw [HY0.out, Nat.gcd_zero_right] at hg
    rw [← hg]
    exact HNX.out
  · have hl : (0 : Int) < ((limbs y).length : Int) := by
     have := mt limbs_len0.1 hy0
     omega
    have HY0 := Lib.hid hy0; clear hy0
    go_wp2_with (go_at_call 134; (with_reducible refine (div_num A1 A2 c1 c2 x y _ R1.out R2.out HG.out.1 HG.out.2.1 HY0.out).mono ?_); rintro e w2 ⟨v7, v8, rfl, hn7, hn8, hb2⟩; have HB2 := Lib.hid hb2; have HN8 := Lib.hid hn8; clear hn7 hn8 hb2)
    go_roundw
    case rel =>
     exact ⟨bel_trans HOLD.out HB2.out, y, x % y, HNY.out.below HB2.out, HN8.out, HG.out.2.1, lt_top (Nat.mod_le x y) HG.out.1, by rw [gcd_turn]; exact HG.out.2.2⟩
    case measure =>
     rw [numAt_is HN8.out, HM.out]
     exact Nat.mod_lt _ (Nat.pos_of_ne_zero HY0.out)

theorem one_any (w : World) : Calls Tryz.prog 91 #[] w (RetN 1 w) := by
 have ho : ∀ W, Calls Tryz.prog 105 #[.int .u64 1] W (RetN 1 W) := fun W => of_any 1 W (by decide)
 have HO := Lib.hid ho; clear ho
 go_enter Tryz.func91, Tryz.ntmps91
 go_wp2_with fail
 refine (HO.out _).mono ?_
 rintro e w2 ⟨v2, rfl, hn2, hb2⟩
 have HN := Lib.hid (And.intro hn2 hb2); clear hn2 hb2
 go_wp2
 go_ret
 exact ⟨_, rfl, HN.out.1, HN.out.2⟩

/-! The reference's, over digits. -/
def strNum : Value → Nat
 | .string s => numOf 10 (codes s)
 | _ => 0
theorem strNum_dec (n : Nat) : strNum (.string (dec n)) = n := num_dec n
theorem field_r (s t : ByteArray) (W : World) : (Instr.field 124 (.agg #[.string s, .string t]) 1).run Tryz.prog W = .ok (.string t) W := by kernel_rfl
theorem refCommon_any (a b : Nat) (w : World) (hl : (decL a).length ≤ 1000) (hl' : (decL b).length ≤ 1000) :
 Calls Tryz.prog 69 #[.string (dec a), .string (dec b)] w (RetS (dec (Nat.gcd a b)) w) := by
 have HL := Lib.hid (And.intro hl hl'); clear hl hl'
 go_enter Tryz.func69, Tryz.ntmps69
 go_wp2
 go_loopw [0, 1] (fun u v wr => ∃ x y, u = .string (dec x) ∧ v = .string (dec y) ∧ (decL x).length ≤ 1000 ∧ (decL y).length ≤ 1000 ∧ Nat.gcd x y = Nat.gcd a b ∧ Below w.heap.size w wr) (fun _ v _ => strNum v)
 case atStart => exact ⟨a, b, rfl, rfl, HL.out.1, HL.out.2, rfl, bel_refl _⟩
 case round =>
  obtain ⟨x, y, rfl, rfl, hx, hy, hg, hold⟩ := hrel
  have HG := Lib.hid (And.intro hx (And.intro hy (And.intro hg hold))); clear hx hy hg hold
  have hb := dec_is0 y
  by_cases hy0 : y = 0
  · rw [decide_eq_true hy0] at hb
    have HY0 := Lib.hid hy0; clear hy0
    go_wp2
    go_ret
    have hg := HG.out.2.2.1
    rw [HY0.out, Nat.gcd_zero_right] at hg
    rw [← hg]
    exact ⟨rfl, HG.out.2.2.2⟩
  · rw [decide_eq_false hy0] at hb
    have HY0 := Lib.hid hy0; clear hy0
    have hfd := fun W => field_r (dec (x / y)) (dec (x % y)) W
    go_wp2_with (go_at_call 109; (with_reducible refine (refDiv_any x y _ HG.out.1 HG.out.2.1 HY0.out).mono ?_); rintro e w2 ⟨rfl, hb2⟩; have HB2 := Lib.hid hb2; clear hb2)
    go_roundw
    case rel =>
     exact ⟨y, x % y, rfl, rfl, HG.out.2.1, Nat.le_trans (decL_mono (Nat.le_of_lt (Nat.mod_lt x (Nat.pos_of_ne_zero HY0.out)))) HG.out.2.1, by rw [gcd_turn]; exact HG.out.2.2.1, bel_trans HG.out.2.2.2 HB2.out⟩
    case measure =>
     rw [strNum_dec, strNum_dec]
     exact Nat.mod_lt _ (Nat.pos_of_ne_zero HY0.out)
end
section
open Go.RowKit

def rightB (neg : Bool) (xs ys : List Nat) : Bool := rightL xs && rightL ys && decide (ys.length ≠ 0) && !(decide (xs.length = 0) && neg) && decide (Nat.gcd (lval xs) (lval ys) = 1)
theorem ratRight_num (neg : Bool) (A B : Option Addr) (c d : Nat) (xs ys : List Nat) (w : World) (h : RdL w A xs) (h' : RdL w B ys) (hl : xs.length ≤ 18) (hr : rightL xs = false) :
 Calls Tryz.prog 50 #[.agg #[.bool neg, .slice A xs.length c, .slice B ys.length d]] w (RetBB false w) := by
 have HR := Lib.hid hr; clear hr
 have RA := Lib.hid h; clear h
 have RB := Lib.hid h'; clear h'
 obtain ⟨wa, hwa⟩ : ∃ wa, wa = w.alloc (.cells #[.bool neg, .slice A xs.length c, .slice B ys.length d] 25) := ⟨_, rfl⟩
 obtain ⟨hbl, CX⟩ := sal1 hwa
 replace RA := hmR RA hbl
 replace RB := hmR RB hbl
 have HW := Lib.hid hbl; clear hbl
 go_enter Tryz.func50, Tryz.ntmps50
 go_wp2_with fail
 rw [← hwa]
 clear hwa
 have CX0 := CX.out.c0
 have CX1 := CX.out.c1
 have CX2 := CX.out.c2
 refine (right_bb A c xs _ RA.out hl).mono ?_
 rintro e w1 ⟨rfl, hbl⟩
 replace RA := hmR RA hbl
 replace RB := hmR RB hbl
 replace CX := hmB CX hbl
 replace HW := hmW HW hbl; clear hbl
 clear CX0 CX1 CX2
 have CX0 := CX.out.c0
 have CX1 := CX.out.c1
 have CX2 := CX.out.c2
 rw [HR.out]
 go_wp2
 go_ret
 exact ⟨rfl, HW.out⟩

theorem ratRight_den (neg : Bool) (A B : Option Addr) (c d : Nat) (xs ys : List Nat) (w : World) (h : RdL w A xs) (h' : RdL w B ys) (hl : xs.length ≤ 18) (hl' : ys.length ≤ 18) (hr : rightL xs = true) (hr2 : rightL ys = false) :
 Calls Tryz.prog 50 #[.agg #[.bool neg, .slice A xs.length c, .slice B ys.length d]] w (RetBB false w) := by
 have HR := Lib.hid (And.intro hr hr2); clear hr hr2
 have RA := Lib.hid h; clear h
 have RB := Lib.hid h'; clear h'
 obtain ⟨wa, hwa⟩ : ∃ wa, wa = w.alloc (.cells #[.bool neg, .slice A xs.length c, .slice B ys.length d] 25) := ⟨_, rfl⟩
 obtain ⟨hbl, CX⟩ := sal1 hwa
 replace RA := hmR RA hbl
 replace RB := hmR RB hbl
 have HW := Lib.hid hbl; clear hbl
 go_enter Tryz.func50, Tryz.ntmps50
 go_wp2_with fail
 rw [← hwa]
 clear hwa
 have CX0 := CX.out.c0
 have CX1 := CX.out.c1
 have CX2 := CX.out.c2
 refine (right_bb A c xs _ RA.out hl).mono ?_
 rintro e w1 ⟨rfl, hbl⟩
 replace RA := hmR RA hbl
 replace RB := hmR RB hbl
 replace CX := hmB CX hbl
 replace HW := hmW HW hbl; clear hbl
 clear CX0 CX1 CX2
 have CX0 := CX.out.c0
 have CX1 := CX.out.c1
 have CX2 := CX.out.c2
 rw [HR.out.1]
 go_wp2_with fail
 refine (right_bb B d ys _ RB.out hl').mono ?_
 rintro e w2 ⟨rfl, hbl⟩
 replace RA := hmR RA hbl
 replace RB := hmR RB hbl
 replace CX := hmB CX hbl
 replace HW := hmW HW hbl; clear hbl
 clear CX0 CX1 CX2
 have CX0 := CX.out.c0
 have CX1 := CX.out.c1
 have CX2 := CX.out.c2
 rw [HR.out.2]
 go_wp2
 go_ret
 exact ⟨rfl, HW.out⟩

theorem ratRight_zero (neg : Bool) (A B : Option Addr) (c d : Nat) (xs ys : List Nat) (w : World) (h : RdL w A xs) (h' : RdL w B ys) (hl : xs.length ≤ 18) (hl' : ys.length ≤ 18) (hr : rightL xs = true) (hr2 : rightL ys = true) (h0 : ys.length = 0) :
 Calls Tryz.prog 50 #[.agg #[.bool neg, .slice A xs.length c, .slice B ys.length d]] w (RetBB false w) := by
 have HR := Lib.hid (And.intro hr hr2); clear hr hr2
 have hz : ((ys.length : Int) == 0) = true := by simp [h0]
 have hz2 : (ys.length : Int) = 0 := by omega
 clear h0
 have RA := Lib.hid h; clear h
 have RB := Lib.hid h'; clear h'
 obtain ⟨wa, hwa⟩ : ∃ wa, wa = w.alloc (.cells #[.bool neg, .slice A xs.length c, .slice B ys.length d] 25) := ⟨_, rfl⟩
 obtain ⟨hbl, CX⟩ := sal1 hwa
 replace RA := hmR RA hbl
 replace RB := hmR RB hbl
 have HW := Lib.hid hbl; clear hbl
 go_enter Tryz.func50, Tryz.ntmps50
 go_wp2_with fail
 rw [← hwa]
 clear hwa
 have CX0 := CX.out.c0
 have CX1 := CX.out.c1
 have CX2 := CX.out.c2
 refine (right_bb A c xs _ RA.out hl).mono ?_
 rintro e w1 ⟨rfl, hbl⟩
 replace RA := hmR RA hbl
 replace RB := hmR RB hbl
 replace CX := hmB CX hbl
 replace HW := hmW HW hbl; clear hbl
 clear CX0 CX1 CX2
 have CX0 := CX.out.c0
 have CX1 := CX.out.c1
 have CX2 := CX.out.c2
 rw [HR.out.1]
 go_wp2_with fail
 refine (right_bb B d ys _ RB.out hl').mono ?_
 rintro e w2 ⟨rfl, hbl⟩
 replace RA := hmR RA hbl
 replace RB := hmR RB hbl
 replace CX := hmB CX hbl
 replace HW := hmW HW hbl; clear hbl
 clear CX0 CX1 CX2
 have CX0 := CX.out.c0
 have CX1 := CX.out.c1
 have CX2 := CX.out.c2
 rw [HR.out.2]
 go_wp2
 go_ret
 exact ⟨rfl, HW.out⟩

theorem ratRight_neg (neg : Bool) (A B : Option Addr) (c d : Nat) (xs ys : List Nat) (w : World) (h : RdL w A xs) (h' : RdL w B ys) (hl : xs.length ≤ 18) (hl' : ys.length ≤ 18) (hr : rightL xs = true) (hr2 : rightL ys = true) (h0 : ys.length ≠ 0) (h1 : xs.length = 0) (hn : neg = true) :
 Calls Tryz.prog 50 #[.agg #[.bool neg, .slice A xs.length c, .slice B ys.length d]] w (RetBB false w) := by
 have HR := Lib.hid (And.intro hr hr2); clear hr hr2
 have hz : ((ys.length : Int) == 0) = false := by simp [h0]
 have hz2 : ¬ (ys.length : Int) = 0 := by omega
 have hx : ((xs.length : Int) == 0) = true := by simp [h1]
 have hx2 : (xs.length : Int) = 0 := by omega
 clear h0 h1
 subst hn
 have RA := Lib.hid h; clear h
 have RB := Lib.hid h'; clear h'
 obtain ⟨wa, hwa⟩ : ∃ wa, wa = w.alloc (.cells #[.bool true, .slice A xs.length c, .slice B ys.length d] 25) := ⟨_, rfl⟩
 obtain ⟨hbl, CX⟩ := sal1 hwa
 replace RA := hmR RA hbl
 replace RB := hmR RB hbl
 have HW := Lib.hid hbl; clear hbl
 go_enter Tryz.func50, Tryz.ntmps50
 go_wp2_with fail
 rw [← hwa]
 clear hwa
 have CX0 := CX.out.c0
 have CX1 := CX.out.c1
 have CX2 := CX.out.c2
 refine (right_bb A c xs _ RA.out hl).mono ?_
 rintro e w1 ⟨rfl, hbl⟩
 replace RA := hmR RA hbl
 replace RB := hmR RB hbl
 replace CX := hmB CX hbl
 replace HW := hmW HW hbl; clear hbl
 clear CX0 CX1 CX2
 have CX0 := CX.out.c0
 have CX1 := CX.out.c1
 have CX2 := CX.out.c2
 rw [HR.out.1]
 go_wp2_with fail
 refine (right_bb B d ys _ RB.out hl').mono ?_
 rintro e w2 ⟨rfl, hbl⟩
 replace RA := hmR RA hbl
 replace RB := hmR RB hbl
 replace CX := hmB CX hbl
 replace HW := hmW HW hbl; clear hbl
 clear CX0 CX1 CX2
 have CX0 := CX.out.c0
 have CX1 := CX.out.c1
 have CX2 := CX.out.c2
 rw [HR.out.2]
 go_wp2
 go_ret
 exact ⟨rfl, HW.out⟩

theorem gcd_top {a b : Nat} (ha : a < Top) (hb : b < Top) : Nat.gcd a b < Top := by
 by_cases h : a = 0
 · rw [h, Nat.gcd_zero_left]; exact hb
 · exact Nat.lt_of_le_of_lt (Nat.gcd_le_left b (Nat.pos_of_ne_zero h)) ha
theorem ratRight_gcdz (A B : Option Addr) (c d : Nat) (a b : Nat) (w : World) (h : RdL w A (limbs a)) (h' : RdL w B (limbs b)) (hc : (limbs a).length ≤ c) (hc' : (limbs b).length ≤ d) (ha : a < Top) (hb : b < Top) (hb0 : b ≠ 0) (ha0 : a = 0) :
 Calls Tryz.prog 50 #[.agg #[.bool false, .slice A (limbs a).length c, .slice B (limbs b).length d]] w (RetBB (decide (Nat.gcd a b = 1)) w) := by
 have LA := Lib.hid (And.intro ha hc); clear ha hc
 have LB := Lib.hid (And.intro hb hc'); clear hb hc'
 have hz2 : ¬ ((limbs b).length : Int) = 0 := mt limbs_len0.1 hb0
 have hz : (((limbs b).length : Int) == 0) = false := by simpa using hz2
 have hx2 : ((limbs a).length : Int) = 0 := limbs_len0.2 ha0
 have hx : (((limbs a).length : Int) == 0) = true := by simpa using hx2
 clear ha0 hb0
 have RA := Lib.hid h; clear h
 have RB := Lib.hid h'; clear h'
 obtain ⟨wa, hwa⟩ : ∃ wa, wa = w.alloc (.cells #[.bool false, .slice A (limbs a).length c, .slice B (limbs b).length d] 25) := ⟨_, rfl⟩
 obtain ⟨hbl, CX⟩ := sal1 hwa
 replace RA := hmR RA hbl
 replace RB := hmR RB hbl
 have HW := Lib.hid hbl; clear hbl
 go_enter Tryz.func50, Tryz.ntmps50
 go_wp2_with fail
 rw [← hwa]
 clear hwa
 have CX0 := CX.out.c0
 have CX1 := CX.out.c1
 have CX2 := CX.out.c2
 refine (rightR LA.out.1 A c _ RA.out).mono ?_
 rintro e w1 ⟨rfl, hbl⟩
 replace RA := hmR RA hbl
 replace RB := hmR RB hbl
 replace CX := hmB CX hbl
 replace HW := hmW HW hbl; clear hbl
 clear CX0 CX1 CX2
 have CX0 := CX.out.c0
 have CX1 := CX.out.c1
 have CX2 := CX.out.c2
 go_wp2_with fail
 refine (rightR LB.out.1 B d _ RB.out).mono ?_
 rintro e w2 ⟨rfl, hbl⟩
 replace RA := hmR RA hbl
 replace RB := hmR RB hbl
 replace CX := hmB CX hbl
 replace HW := hmW HW hbl; clear hbl
 clear CX0 CX1 CX2
 have CX0 := CX.out.c0
 have CX1 := CX.out.c1
 have CX2 := CX.out.c2
 go_wp2_with fail
 refine (common_num A B c d a b _ RA.out RB.out LA.out.2 LB.out.2 LA.out.1 LB.out.1).mono ?_
 rintro e w3 ⟨vg, rfl, hng, hbl⟩
 replace RA := hmR RA hbl
 replace RB := hmR RB hbl
 replace CX := hmB CX hbl
 replace HW := hmW HW hbl; clear hbl
 clear CX0 CX1 CX2
 have CX0 := CX.out.c0
 have CX1 := CX.out.c1
 have CX2 := CX.out.c2
 have HNg := Lib.hid hng; clear hng
 obtain ⟨Ag, cg, rfl, hcg, hrg⟩ := HNg.out.row
 have Rg := Lib.hid hrg; have HCg := Lib.hid hcg; clear hrg hcg
 go_wp2_with fail
 refine (one_any _).mono ?_
 rintro e w4 ⟨vo, rfl, hno, hbl⟩
 replace RA := hmR RA hbl
 replace RB := hmR RB hbl
 replace Rg := hmR Rg hbl
 replace HNg := hmN HNg hbl
 replace CX := hmB CX hbl
 replace HW := hmW HW hbl; clear hbl
 clear CX0 CX1 CX2
 have CX0 := CX.out.c0
 have CX1 := CX.out.c1
 have CX2 := CX.out.c2
 have HNo := Lib.hid hno; clear hno
 obtain ⟨Ao, co, rfl, hco, hro⟩ := HNo.out.row
 have Ro := Lib.hid hro; have HCo := Lib.hid hco; clear hro hco
 have LG := Lib.hid (gcd_top LA.out.1 LB.out.1)
 go_wp2_with fail
 refine (equal_num Ag Ao cg co (Nat.gcd a b) 1 _ Rg.out Ro.out LG.out).mono ?_
 rintro e w5 ⟨rfl, hbl⟩
 replace RA := hmR RA hbl
 replace RB := hmR RB hbl
 replace Rg := hmR Rg hbl
 replace HNg := hmN HNg hbl
 replace Ro := hmR Ro hbl
 replace HNo := hmN HNo hbl
 replace CX := hmB CX hbl
 replace HW := hmW HW hbl; clear hbl
 clear CX0 CX1 CX2
 have CX0 := CX.out.c0
 have CX1 := CX.out.c1
 have CX2 := CX.out.c2
 go_wp2
 go_ret
 exact ⟨rfl, HW.out⟩

theorem ratRight_gcdp (A B : Option Addr) (c d : Nat) (neg : Bool) (a b : Nat) (w : World) (h : RdL w A (limbs a)) (h' : RdL w B (limbs b)) (hc : (limbs a).length ≤ c) (hc' : (limbs b).length ≤ d) (ha : a < Top) (hb : b < Top) (hb0 : b ≠ 0) (ha0 : a ≠ 0) :
 Calls Tryz.prog 50 #[.agg #[.bool neg, .slice A (limbs a).length c, .slice B (limbs b).length d]] w (RetBB (decide (Nat.gcd a b = 1)) w) := by
 have LA := Lib.hid (And.intro ha hc); clear ha hc
 have LB := Lib.hid (And.intro hb hc'); clear hb hc'
 have hz2 : ¬ ((limbs b).length : Int) = 0 := mt limbs_len0.1 hb0
 have hz : (((limbs b).length : Int) == 0) = false := by simpa using hz2
 have hx2 : ¬ ((limbs a).length : Int) = 0 := mt limbs_len0.1 ha0
 have hx : (((limbs a).length : Int) == 0) = false := by simpa using hx2
 clear ha0 hb0
 have RA := Lib.hid h; clear h
 have RB := Lib.hid h'; clear h'
 obtain ⟨wa, hwa⟩ : ∃ wa, wa = w.alloc (.cells #[.bool neg, .slice A (limbs a).length c, .slice B (limbs b).length d] 25) := ⟨_, rfl⟩
 obtain ⟨hbl, CX⟩ := sal1 hwa
 replace RA := hmR RA hbl
 replace RB := hmR RB hbl
 have HW := Lib.hid hbl; clear hbl
 go_enter Tryz.func50, Tryz.ntmps50
 go_wp2_with fail
 rw [← hwa]
 clear hwa
 have CX0 := CX.out.c0
 have CX1 := CX.out.c1
 have CX2 := CX.out.c2
 refine (rightR LA.out.1 A c _ RA.out).mono ?_
 rintro e w1 ⟨rfl, hbl⟩
 replace RA := hmR RA hbl
 replace RB := hmR RB hbl
 replace CX := hmB CX hbl
 replace HW := hmW HW hbl; clear hbl
 clear CX0 CX1 CX2
 have CX0 := CX.out.c0
 have CX1 := CX.out.c1
 have CX2 := CX.out.c2
 go_wp2_with fail
 refine (rightR LB.out.1 B d _ RB.out).mono ?_
 rintro e w2 ⟨rfl, hbl⟩
 replace RA := hmR RA hbl
 replace RB := hmR RB hbl
 replace CX := hmB CX hbl
 replace HW := hmW HW hbl; clear hbl
 clear CX0 CX1 CX2
 have CX0 := CX.out.c0
 have CX1 := CX.out.c1
 have CX2 := CX.out.c2
 go_wp2_with fail
 refine (common_num A B c d a b _ RA.out RB.out LA.out.2 LB.out.2 LA.out.1 LB.out.1).mono ?_
 rintro e w3 ⟨vg, rfl, hng, hbl⟩
 replace RA := hmR RA hbl
 replace RB := hmR RB hbl
 replace CX := hmB CX hbl
 replace HW := hmW HW hbl; clear hbl
 clear CX0 CX1 CX2
 have CX0 := CX.out.c0
 have CX1 := CX.out.c1
 have CX2 := CX.out.c2
 have HNg := Lib.hid hng; clear hng
 obtain ⟨Ag, cg, rfl, hcg, hrg⟩ := HNg.out.row
 have Rg := Lib.hid hrg; have HCg := Lib.hid hcg; clear hrg hcg
 go_wp2_with fail
 refine (one_any _).mono ?_
 rintro e w4 ⟨vo, rfl, hno, hbl⟩
 replace RA := hmR RA hbl
 replace RB := hmR RB hbl
 replace Rg := hmR Rg hbl
 replace HNg := hmN HNg hbl
 replace CX := hmB CX hbl
 replace HW := hmW HW hbl; clear hbl
 clear CX0 CX1 CX2
 have CX0 := CX.out.c0
 have CX1 := CX.out.c1
 have CX2 := CX.out.c2
 have HNo := Lib.hid hno; clear hno
 obtain ⟨Ao, co, rfl, hco, hro⟩ := HNo.out.row
 have Ro := Lib.hid hro; have HCo := Lib.hid hco; clear hro hco
 have LG := Lib.hid (gcd_top LA.out.1 LB.out.1)
 go_wp2_with fail
 refine (equal_num Ag Ao cg co (Nat.gcd a b) 1 _ Rg.out Ro.out LG.out).mono ?_
 rintro e w5 ⟨rfl, hbl⟩
 replace RA := hmR RA hbl
 replace RB := hmR RB hbl
 replace Rg := hmR Rg hbl
 replace HNg := hmN HNg hbl
 replace Ro := hmR Ro hbl
 replace HNo := hmN HNo hbl
 replace CX := hmB CX hbl
 replace HW := hmW HW hbl; clear hbl
 clear CX0 CX1 CX2
 have CX0 := CX.out.c0
 have CX1 := CX.out.c1
 have CX2 := CX.out.c2
 go_wp2
 go_ret
 exact ⟨rfl, HW.out⟩

theorem limbs_ne {n : Nat} (h : (limbs n).length ≠ 0) : n ≠ 0 := fun e => h (by rw [e]; rfl)
theorem limbs_eq0 {n : Nat} (h : (limbs n).length = 0) : n = 0 := limbs_len0.1 (by omega)
theorem ratRight_any (neg : Bool) (A B : Option Addr) (c d : Nat) (xs ys : List Nat) (w : World) (h : RdL w A xs) (h' : RdL w B ys) (hx : Lim xs) (hy : Lim ys) (hl : xs.length ≤ 18) (hl' : ys.length ≤ 18) (hc : xs.length ≤ c) (hc' : ys.length ≤ d) :
 Calls Tryz.prog 50 #[.agg #[.bool neg, .slice A xs.length c, .slice B ys.length d]] w (RetBB (rightB neg xs ys) w) := by
 unfold rightB
 cases hr : rightL xs
 · exact ratRight_num neg A B c d xs ys w h h' hl hr
 cases hr2 : rightL ys
 · exact ratRight_den neg A B c d xs ys w h h' hl hl' hr hr2
 by_cases h0 : ys.length = 0
 · rw [decide_eq_false (show ¬ ys.length ≠ 0 by omega)]
   exact ratRight_zero neg A B c d xs ys w h h' hl hl' hr hr2 h0
 rw [decide_eq_true (show ys.length ≠ 0 from h0)]
 obtain ⟨a, rfl, ha⟩ := right_num hx hr
 obtain ⟨b, rfl, hb⟩ := right_num hy hr2
 rw [lval_limbs, lval_limbs]
 by_cases h1 : (limbs a).length = 0
 · rw [decide_eq_true h1]
   cases neg
   · exact ratRight_gcdz A B c d a b w h h' hc hc' ha hb (limbs_ne h0) (limbs_eq0 h1)
   · exact ratRight_neg true A B c d (limbs a) (limbs b) w h h' hl hl' hr hr2 h0 h1 rfl
 · rw [decide_eq_false h1]
   exact ratRight_gcdp A B c d neg a b w h h' hc hc' ha hb (limbs_ne h0) (mt (fun e => by rw [e]; rfl) h1)
end
section
open Go.RowKit

theorem cells_keep {g : Nat} {t : TypeId} {v0 v1 v2 : Value} {wk w1 w2 : World} (B : Blk wk g t #[v0, v1, v2]) (h : w1.cell? ⟨g, 1, none⟩ = some v1 ∧ w1.cell? ⟨g, 2, none⟩ = some v2 ∧ Below wk.heap.size wk w1) (hb : Below w1.heap.size w1 w2) : w2.cell? ⟨g, 1, none⟩ = some v1 ∧ w2.cell? ⟨g, 2, none⟩ = some v2 ∧ Below wk.heap.size wk w2 := by
 have hb2 := bel_trans h.2.2 hb
 have B2 := B.below hb2 B.lt
 exact ⟨B2.cell 1, B2.cell 2, hb2⟩
theorem refRatRight_num (neg : Bool) (A B : Option Addr) (c d : Nat) (xs ys : List Nat) (w : World) (h : RdL w A xs) (h' : RdL w B ys) (hl : xs.length ≤ 18) (hr : rightL xs = false) :
 Calls Tryz.prog 32 #[.agg #[.bool neg, .slice A xs.length c, .slice B ys.length d]] w (RetBB false w) := by
 have HR := Lib.hid hr; clear hr
 have RA := Lib.hid h; clear h
 have RB := Lib.hid h'; clear h'
 obtain ⟨wa, hwa⟩ : ∃ wa, wa = w.alloc (.cells #[.bool neg, .slice A xs.length c, .slice B ys.length d] 25) := ⟨_, rfl⟩
 obtain ⟨hbl, CX⟩ := sal1 hwa
 replace RA := hmR RA hbl
 replace RB := hmR RB hbl
 have HW := Lib.hid hbl; clear hbl
 go_enter Tryz.func32, Tryz.ntmps32
 go_wp2_with fail
 rw [← hwa]
 clear hwa
 have CX0 := CX.out.c0
 have CX1 := CX.out.c1
 have CX2 := CX.out.c2
 refine (refRight_bb A c xs _ RA.out hl).mono ?_
 rintro e w1 ⟨rfl, hbl⟩
 replace RA := hmR RA hbl
 replace RB := hmR RB hbl
 replace CX := hmB CX hbl
 replace HW := hmW HW hbl; clear hbl
 clear CX0 CX1 CX2
 have CX0 := CX.out.c0
 have CX1 := CX.out.c1
 have CX2 := CX.out.c2
 rw [HR.out]
 go_wp2
 go_ret
 exact ⟨rfl, HW.out⟩

theorem refRatRight_den (neg : Bool) (A B : Option Addr) (c d : Nat) (xs ys : List Nat) (w : World) (h : RdL w A xs) (h' : RdL w B ys) (hl : xs.length ≤ 18) (hl' : ys.length ≤ 18) (hr : rightL xs = true) (hr2 : rightL ys = false) :
 Calls Tryz.prog 32 #[.agg #[.bool neg, .slice A xs.length c, .slice B ys.length d]] w (RetBB false w) := by
 have HR := Lib.hid (And.intro hr hr2); clear hr hr2
 have RA := Lib.hid h; clear h
 have RB := Lib.hid h'; clear h'
 obtain ⟨wa, hwa⟩ : ∃ wa, wa = w.alloc (.cells #[.bool neg, .slice A xs.length c, .slice B ys.length d] 25) := ⟨_, rfl⟩
 obtain ⟨hbl, CX⟩ := sal1 hwa
 replace RA := hmR RA hbl
 replace RB := hmR RB hbl
 have HW := Lib.hid hbl; clear hbl
 go_enter Tryz.func32, Tryz.ntmps32
 go_wp2_with fail
 rw [← hwa]
 clear hwa
 have CX0 := CX.out.c0
 have CX1 := CX.out.c1
 have CX2 := CX.out.c2
 refine (refRight_bb A c xs _ RA.out hl).mono ?_
 rintro e w1 ⟨rfl, hbl⟩
 replace RA := hmR RA hbl
 replace RB := hmR RB hbl
 replace CX := hmB CX hbl
 replace HW := hmW HW hbl; clear hbl
 clear CX0 CX1 CX2
 have CX0 := CX.out.c0
 have CX1 := CX.out.c1
 have CX2 := CX.out.c2
 rw [HR.out.1]
 go_wp2_with fail
 refine (refRight_bb B d ys _ RB.out hl').mono ?_
 rintro e w2 ⟨rfl, hbl⟩
 replace RA := hmR RA hbl
 replace RB := hmR RB hbl
 replace CX := hmB CX hbl
 replace HW := hmW HW hbl; clear hbl
 clear CX0 CX1 CX2
 have CX0 := CX.out.c0
 have CX1 := CX.out.c1
 have CX2 := CX.out.c2
 rw [HR.out.2]
 go_wp2
 go_ret
 exact ⟨rfl, HW.out⟩

theorem refRatRight_zero (neg : Bool) (A B : Option Addr) (c d : Nat) (xs ys : List Nat) (w : World) (h : RdL w A xs) (h' : RdL w B ys) (hl : xs.length ≤ 18) (hl' : ys.length ≤ 18) (hr : rightL xs = true) (hr2 : rightL ys = true) (h0 : ys.length = 0) :
 Calls Tryz.prog 32 #[.agg #[.bool neg, .slice A xs.length c, .slice B ys.length d]] w (RetBB false w) := by
 have HR := Lib.hid (And.intro hr hr2); clear hr hr2
 have hz : ((ys.length : Int) == 0) = true := by simp [h0]
 have hz2 : (ys.length : Int) = 0 := by omega
 clear h0
 have RA := Lib.hid h; clear h
 have RB := Lib.hid h'; clear h'
 obtain ⟨wa, hwa⟩ : ∃ wa, wa = w.alloc (.cells #[.bool neg, .slice A xs.length c, .slice B ys.length d] 25) := ⟨_, rfl⟩
 obtain ⟨hbl, CX⟩ := sal1 hwa
 replace RA := hmR RA hbl
 replace RB := hmR RB hbl
 have HW := Lib.hid hbl; clear hbl
 go_enter Tryz.func32, Tryz.ntmps32
 go_wp2_with fail
 rw [← hwa]
 clear hwa
 have CX0 := CX.out.c0
 have CX1 := CX.out.c1
 have CX2 := CX.out.c2
 refine (refRight_bb A c xs _ RA.out hl).mono ?_
 rintro e w1 ⟨rfl, hbl⟩
 replace RA := hmR RA hbl
 replace RB := hmR RB hbl
 replace CX := hmB CX hbl
 replace HW := hmW HW hbl; clear hbl
 clear CX0 CX1 CX2
 have CX0 := CX.out.c0
 have CX1 := CX.out.c1
 have CX2 := CX.out.c2
 rw [HR.out.1]
 go_wp2_with fail
 refine (refRight_bb B d ys _ RB.out hl').mono ?_
 rintro e w2 ⟨rfl, hbl⟩
 replace RA := hmR RA hbl
 replace RB := hmR RB hbl
 replace CX := hmB CX hbl
 replace HW := hmW HW hbl; clear hbl
 clear CX0 CX1 CX2
 have CX0 := CX.out.c0
 have CX1 := CX.out.c1
 have CX2 := CX.out.c2
 rw [HR.out.2]
 go_wp2
 go_ret
 exact ⟨rfl, HW.out⟩

theorem refRatRight_neg (neg : Bool) (A B : Option Addr) (c d : Nat) (xs ys : List Nat) (w : World) (h : RdL w A xs) (h' : RdL w B ys) (hl : xs.length ≤ 18) (hl' : ys.length ≤ 18) (hr : rightL xs = true) (hr2 : rightL ys = true) (h0 : ys.length ≠ 0) (h1 : xs.length = 0) (hn : neg = true) :
 Calls Tryz.prog 32 #[.agg #[.bool neg, .slice A xs.length c, .slice B ys.length d]] w (RetBB false w) := by
 have HR := Lib.hid (And.intro hr hr2); clear hr hr2
 have hz : ((ys.length : Int) == 0) = false := by simp [h0]
 have hz2 : ¬ (ys.length : Int) = 0 := by omega
 have hx : ((xs.length : Int) == 0) = true := by simp [h1]
 have hx2 : (xs.length : Int) = 0 := by omega
 clear h0 h1
 subst hn
 have RA := Lib.hid h; clear h
 have RB := Lib.hid h'; clear h'
 obtain ⟨wa, hwa⟩ : ∃ wa, wa = w.alloc (.cells #[.bool true, .slice A xs.length c, .slice B ys.length d] 25) := ⟨_, rfl⟩
 obtain ⟨hbl, CX⟩ := sal1 hwa
 replace RA := hmR RA hbl
 replace RB := hmR RB hbl
 have HW := Lib.hid hbl; clear hbl
 go_enter Tryz.func32, Tryz.ntmps32
 go_wp2_with fail
 rw [← hwa]
 clear hwa
 have CX0 := CX.out.c0
 have CX1 := CX.out.c1
 have CX2 := CX.out.c2
 refine (refRight_bb A c xs _ RA.out hl).mono ?_
 rintro e w1 ⟨rfl, hbl⟩
 replace RA := hmR RA hbl
 replace RB := hmR RB hbl
 replace CX := hmB CX hbl
 replace HW := hmW HW hbl; clear hbl
 clear CX0 CX1 CX2
 have CX0 := CX.out.c0
 have CX1 := CX.out.c1
 have CX2 := CX.out.c2
 rw [HR.out.1]
 go_wp2_with fail
 refine (refRight_bb B d ys _ RB.out hl').mono ?_
 rintro e w2 ⟨rfl, hbl⟩
 replace RA := hmR RA hbl
 replace RB := hmR RB hbl
 replace CX := hmB CX hbl
 replace HW := hmW HW hbl; clear hbl
 clear CX0 CX1 CX2
 have CX0 := CX.out.c0
 have CX1 := CX.out.c1
 have CX2 := CX.out.c2
 rw [HR.out.2]
 go_wp2
 go_ret
 exact ⟨rfl, HW.out⟩

theorem refRatRight_gcdz (A B : Option Addr) (c d : Nat) (a b : Nat) (w : World) (h : RdL w A (limbs a)) (h' : RdL w B (limbs b)) (ha : a < Top) (hb : b < Top) (hb0 : b ≠ 0) (ha0 : a = 0) :
 Calls Tryz.prog 32 #[.agg #[.bool false, .slice A (limbs a).length c, .slice B (limbs b).length d]] w (RetBB (decide (Nat.gcd a b = 1)) w) := by
 have LA := Lib.hid ha; clear ha
 have LB := Lib.hid hb; clear hb
 have hz2 : ¬ ((limbs b).length : Int) = 0 := mt limbs_len0.1 hb0
 have hz : (((limbs b).length : Int) == 0) = false := by simpa using hz2
 have hx2 : ((limbs a).length : Int) = 0 := limbs_len0.2 ha0
 have hx : (((limbs a).length : Int) == 0) = true := by simpa using hx2
 clear ha0 hb0
 have hgd := dec_is1 (Nat.gcd a b)
 have RA := Lib.hid h; clear h
 have RB := Lib.hid h'; clear h'
 obtain ⟨wa, hwa⟩ : ∃ wa, wa = w.alloc (.cells #[.bool false, .slice A (limbs a).length c, .slice B (limbs b).length d] 25) := ⟨_, rfl⟩
 obtain ⟨hbl, CX⟩ := sal1 hwa
 replace RA := hmR RA hbl
 replace RB := hmR RB hbl
 have HW := Lib.hid hbl; clear hbl
 go_enter Tryz.func32, Tryz.ntmps32
 go_wp2_with fail
 rw [← hwa]
 clear hwa
 have CX0 := CX.out.c0
 have CX1 := CX.out.c1
 have CX2 := CX.out.c2
 refine (refRightR LA.out A c _ RA.out).mono ?_
 rintro e w1 ⟨rfl, hbl⟩
 replace RA := hmR RA hbl
 replace RB := hmR RB hbl
 replace CX := hmB CX hbl
 replace HW := hmW HW hbl; clear hbl
 clear CX0 CX1 CX2
 have CX0 := CX.out.c0
 have CX1 := CX.out.c1
 have CX2 := CX.out.c2
 go_wp2_with fail
 refine (refRightR LB.out B d _ RB.out).mono ?_
 rintro e w2 ⟨rfl, hbl⟩
 replace RA := hmR RA hbl
 replace RB := hmR RB hbl
 replace CX := hmB CX hbl
 replace HW := hmW HW hbl; clear hbl
 clear CX0 CX1 CX2
 have CX0 := CX.out.c0
 have CX1 := CX.out.c1
 have CX2 := CX.out.c2
 go_wp2_with fail
 go_region_held3 (fun w' => w'.cell? ⟨w.heap.size, 1, none⟩ = some (.slice A (limbs a).length c) ∧ w'.cell? ⟨w.heap.size, 2, none⟩ = some (.slice B (limbs b).length d) ∧ Below w2.heap.size w2 w')
  (first | exact ⟨CX1, CX2, (Below.refl _ _).drew⟩ | assumption)
  (first
   | (go_at_call 21; have hH := ‹_ ∧ _ ∧ Below _ _ _›; (first | (with_reducible refine (text_num A c a _ (RA.out.below hH.2.2) LA.out).mono ?_) | (with_reducible refine (text_num B d b _ (RB.out.below hH.2.2) LB.out).mono ?_)); rintro e w' ⟨rfl, hbx⟩; have hs := cells_keep CX.out hH hbx)
   | (go_at_call 69; have hH := ‹_ ∧ _ ∧ Below _ _ _›; (with_reducible refine (refCommon_any a b _ (by have := decL_top LA.out; omega) (by have := decL_top LB.out; omega)).mono ?_); rintro e w' ⟨rfl, hbx⟩; have hs := cells_keep CX.out hH hbx))
 all_goals (go_wp2; go_ret; have hH := ‹_ ∧ _ ∧ Below _ _ _›; exact ⟨rfl, bel_trans HW.out hH.2.2⟩)

theorem refRatRight_gcdp (A B : Option Addr) (c d : Nat) (neg : Bool) (a b : Nat) (w : World) (h : RdL w A (limbs a)) (h' : RdL w B (limbs b)) (ha : a < Top) (hb : b < Top) (hb0 : b ≠ 0) (ha0 : a ≠ 0) :
 Calls Tryz.prog 32 #[.agg #[.bool neg, .slice A (limbs a).length c, .slice B (limbs b).length d]] w (RetBB (decide (Nat.gcd a b = 1)) w) := by
 have LA := Lib.hid ha; clear ha
 have LB := Lib.hid hb; clear hb
 have hz2 : ¬ ((limbs b).length : Int) = 0 := mt limbs_len0.1 hb0
 have hz : (((limbs b).length : Int) == 0) = false := by simpa using hz2
 have hx2 : ¬ ((limbs a).length : Int) = 0 := mt limbs_len0.1 ha0
 have hx : (((limbs a).length : Int) == 0) = false := by simpa using hx2
 clear ha0 hb0
 have hgd := dec_is1 (Nat.gcd a b)
 have RA := Lib.hid h; clear h
 have RB := Lib.hid h'; clear h'
 obtain ⟨wa, hwa⟩ : ∃ wa, wa = w.alloc (.cells #[.bool neg, .slice A (limbs a).length c, .slice B (limbs b).length d] 25) := ⟨_, rfl⟩
 obtain ⟨hbl, CX⟩ := sal1 hwa
 replace RA := hmR RA hbl
 replace RB := hmR RB hbl
 have HW := Lib.hid hbl; clear hbl
 go_enter Tryz.func32, Tryz.ntmps32
 go_wp2_with fail
 rw [← hwa]
 clear hwa
 have CX0 := CX.out.c0
 have CX1 := CX.out.c1
 have CX2 := CX.out.c2
 refine (refRightR LA.out A c _ RA.out).mono ?_
 rintro e w1 ⟨rfl, hbl⟩
 replace RA := hmR RA hbl
 replace RB := hmR RB hbl
 replace CX := hmB CX hbl
 replace HW := hmW HW hbl; clear hbl
 clear CX0 CX1 CX2
 have CX0 := CX.out.c0
 have CX1 := CX.out.c1
 have CX2 := CX.out.c2
 go_wp2_with fail
 refine (refRightR LB.out B d _ RB.out).mono ?_
 rintro e w2 ⟨rfl, hbl⟩
 replace RA := hmR RA hbl
 replace RB := hmR RB hbl
 replace CX := hmB CX hbl
 replace HW := hmW HW hbl; clear hbl
 clear CX0 CX1 CX2
 have CX0 := CX.out.c0
 have CX1 := CX.out.c1
 have CX2 := CX.out.c2
 go_wp2_with fail
 go_region_held3 (fun w' => w'.cell? ⟨w.heap.size, 1, none⟩ = some (.slice A (limbs a).length c) ∧ w'.cell? ⟨w.heap.size, 2, none⟩ = some (.slice B (limbs b).length d) ∧ Below w2.heap.size w2 w')
  (first | exact ⟨CX1, CX2, (Below.refl _ _).drew⟩ | assumption)
  (first
   | (go_at_call 21; have hH := ‹_ ∧ _ ∧ Below _ _ _›; (first | (with_reducible refine (text_num A c a _ (RA.out.below hH.2.2) LA.out).mono ?_) | (with_reducible refine (text_num B d b _ (RB.out.below hH.2.2) LB.out).mono ?_)); rintro e w' ⟨rfl, hbx⟩; have hs := cells_keep CX.out hH hbx)
   | (go_at_call 69; have hH := ‹_ ∧ _ ∧ Below _ _ _›; (with_reducible refine (refCommon_any a b _ (by have := decL_top LA.out; omega) (by have := decL_top LB.out; omega)).mono ?_); rintro e w' ⟨rfl, hbx⟩; have hs := cells_keep CX.out hH hbx))
 all_goals (go_wp2; go_ret; have hH := ‹_ ∧ _ ∧ Below _ _ _›; exact ⟨rfl, bel_trans HW.out hH.2.2⟩)

theorem refRatRight_any (neg : Bool) (A B : Option Addr) (c d : Nat) (xs ys : List Nat) (w : World) (h : RdL w A xs) (h' : RdL w B ys) (hx : Lim xs) (hy : Lim ys) (hl : xs.length ≤ 18) (hl' : ys.length ≤ 18) :
 Calls Tryz.prog 32 #[.agg #[.bool neg, .slice A xs.length c, .slice B ys.length d]] w (RetBB (rightB neg xs ys) w) := by
 unfold rightB
 cases hr : rightL xs
 · exact refRatRight_num neg A B c d xs ys w h h' hl hr
 cases hr2 : rightL ys
 · exact refRatRight_den neg A B c d xs ys w h h' hl hl' hr hr2
 by_cases h0 : ys.length = 0
 · rw [decide_eq_false (show ¬ ys.length ≠ 0 by omega)]
   exact refRatRight_zero neg A B c d xs ys w h h' hl hl' hr hr2 h0
 rw [decide_eq_true (show ys.length ≠ 0 from h0)]
 obtain ⟨a, rfl, ha⟩ := right_num hx hr
 obtain ⟨b, rfl, hb⟩ := right_num hy hr2
 rw [lval_limbs, lval_limbs]
 by_cases h1 : (limbs a).length = 0
 · rw [decide_eq_true h1]
   cases neg
   · exact refRatRight_gcdz A B c d a b w h h' ha hb (limbs_ne h0) (limbs_eq0 h1)
   · exact refRatRight_neg true A B c d (limbs a) (limbs b) w h h' hl hl' hr hr2 h0 h1 rfl
 · rw [decide_eq_false h1]
   exact refRatRight_gcdp A B c d neg a b w h h' ha hb (limbs_ne h0) (mt (fun e => by rw [e]; rfl) h1)
end
section

structure Q where
 s : Bool
 n : Nat
 d : Nat
deriving DecidableEq

structure QR (q : Q) : Prop where
 den : q.d ≠ 0
 zero : q.n = 0 → q.s = false
 co : Nat.gcd q.n q.d = 1

def sg (s : Bool) (n : Nat) : Int := if s then -(n : Int) else (n : Int)
def Q.top (q : Q) : Int := sg q.s q.n
def redQ (s : Bool) (n d : Nat) : Q := if n = 0 then ⟨false, 0, 1⟩ else ⟨s, n / Nat.gcd n d, d / Nat.gcd n d⟩

theorem redQ_right (s : Bool) (n d : Nat) (hd : d ≠ 0) : QR (redQ s n d) := by
 unfold redQ
 by_cases h : n = 0
 · rw [if_pos h]; exact ⟨by decide, fun _ => rfl, by decide⟩
 · rw [if_neg h]
   have hg : 0 < Nat.gcd n d := Nat.gcd_pos_of_pos_left _ (by omega)
   refine ⟨?_, ?_, ?_⟩
   · have := Nat.div_pos (Nat.le_of_dvd (by omega) (Nat.gcd_dvd_right n d)) hg
     show d / Nat.gcd n d ≠ 0
     omega
   · intro h0
     have := Nat.div_pos (Nat.le_of_dvd (by omega) (Nat.gcd_dvd_left n d)) hg
     have h0' : n / Nat.gcd n d = 0 := h0
     omega
   · exact Nat.gcd_div_gcd_div_gcd_of_pos_right (by omega)
theorem redQ_val (s : Bool) (n d : Nat) : (redQ s n d).top * (d : Int) = sg s n * ((redQ s n d).d : Int) := by
 unfold redQ Q.top
 by_cases h : n = 0
 · rw [if_pos h, h]
   cases s <;> simp [sg]
 · rw [if_neg h]
   have h1 : n / Nat.gcd n d * Nat.gcd n d = n := Nat.div_mul_cancel (Nat.gcd_dvd_left n d)
   have h2 : d / Nat.gcd n d * Nat.gcd n d = d := Nat.div_mul_cancel (Nat.gcd_dvd_right n d)
   generalize n / Nat.gcd n d = x at *
   generalize d / Nat.gcd n d = y at *
   generalize Nat.gcd n d = g at *
   have h1' : (x : Int) * g = n := by exact_mod_cast h1
   have h2' : (y : Int) * g = d := by exact_mod_cast h2
   cases s
   · simp only [sg]; simp; grind
   · simp only [sg]; simp; grind
theorem redQ_top (s : Bool) {n d T : Nat} (hn : n < T) (hd : d < T) (h1 : 1 < T) : (redQ s n d).n < T ∧ (redQ s n d).d < T := by
 unfold redQ
 by_cases h : n = 0
 · rw [if_pos h]; exact ⟨by show 0 < T; omega, h1⟩
 · rw [if_neg h]
   exact ⟨Nat.lt_of_le_of_lt (Nat.div_le_self _ _) hn, Nat.lt_of_le_of_lt (Nat.div_le_self _ _) hd⟩

theorem co_uniq {n d n' d' : Nat} (h : Nat.gcd n d = 1) (h' : Nat.gcd n' d' = 1) (hd : d ≠ 0) (e : n * d' = n' * d) : n = n' ∧ d = d' := by
 have hc : Nat.Coprime n d := h
 have hc' : Nat.Coprime n' d' := h'
 have d1 : d ∣ d' := hc.symm.dvd_of_dvd_mul_left (by rw [e]; exact Nat.dvd_mul_left ..)
 have d2 : d' ∣ d := hc'.symm.dvd_of_dvd_mul_left (by rw [← e]; exact Nat.dvd_mul_left ..)
 have hdd : d = d' := Nat.dvd_antisymm d1 d2
 subst hdd
 exact ⟨Nat.mul_right_cancel (by omega) e, rfl⟩
theorem sg_abs {s s' : Bool} {n n' : Nat} (h : sg s n = sg s' n') : n = n' ∧ (n ≠ 0 → s = s') := by
 cases s <;> cases s' <;> simp [sg] at h ⊢ <;> omega
theorem sg_mul (s : Bool) (n d : Nat) : sg s n * (d : Int) = sg s (n * d) := by cases s <;> simp [sg, Int.neg_mul]
theorem Q_uniq {a b : Q} (ha : QR a) (hb : QR b) (h : a.top * (b.d : Int) = b.top * (a.d : Int)) : a = b := by
 obtain ⟨s, n, d⟩ := a
 obtain ⟨s', n', d'⟩ := b
 unfold Q.top at h
 simp only [] at h
 rw [sg_mul, sg_mul] at h
 obtain ⟨h1, h2⟩ := sg_abs h
 have hz : n = 0 → s = false := ha.zero
 have hz' : n' = 0 → s' = false := hb.zero
 have hd : d ≠ 0 := ha.den
 obtain ⟨e1, e2⟩ : n = n' ∧ d = d' := co_uniq ha.co hb.co ha.den h1
 have e3 : s = s' := by
  by_cases hn : n = 0
  · rw [hz hn, hz' (by omega)]
  · exact h2 (Nat.mul_ne_zero hn (by show d' ≠ 0; omega))
 rw [e1, e2, e3]

def sumQ (s s' : Bool) (x y den : Nat) : Q := if s = s' then redQ s (x + y) den else if x < y then redQ s' (y - x) den else redQ s (x - y) den
theorem sumQ_val (s s' : Bool) (x y den : Nat) : (sumQ s s' x y den).top * (den : Int) = (sg s x + sg s' y) * ((sumQ s s' x y den).d : Int) := by
 unfold sumQ
 by_cases h : s = s'
 · subst h
   rw [if_pos rfl, redQ_val _ _ _]
   congr 1
   cases s <;> simp [sg] <;> omega
 · rw [if_neg h]
   by_cases hlt : x < y
   · rw [if_pos hlt, redQ_val _ _ _]
     congr 1
     cases s <;> cases s' <;> simp [sg] at h ⊢ <;> omega
   · rw [if_neg hlt, redQ_val _ _ _]
     congr 1
     cases s <;> cases s' <;> simp [sg] at h ⊢ <;> omega
theorem sumQ_right (s s' : Bool) (x y den : Nat) (hd : den ≠ 0) : QR (sumQ s s' x y den) := by
 unfold sumQ
 split
 · exact redQ_right _ _ _ hd
 · split <;> exact redQ_right _ _ _ hd

def addQ (a b : Q) : Q := sumQ a.s b.s (a.n * b.d) (b.n * a.d) (a.d * b.d)
theorem sg_not (s : Bool) (n : Nat) : sg (!s) n = -sg s n := by cases s <;> simp [sg]
theorem den_ne {a b : Nat} (ha : a ≠ 0) (hb : b ≠ 0) : a * b ≠ 0 := Nat.mul_ne_zero ha hb
theorem addQ_right {a b : Q} (ha : a.d ≠ 0) (hb : b.d ≠ 0) : QR (addQ a b) := sumQ_right _ _ _ _ _ (den_ne ha hb)
theorem addQ_val {a b : Q} : (addQ a b).top * ((a.d : Int) * b.d) = (a.top * b.d + b.top * a.d) * ((addQ a b).d : Int) := by
 have h := sumQ_val a.s b.s (a.n * b.d) (b.n * a.d) (a.d * b.d)
 rw [← sg_mul, ← sg_mul] at h
 unfold addQ
 show _ = (sg a.s a.n * _ + sg b.s b.n * _) * _
 rw [← h]
 simp
theorem int_ne {n : Nat} (h : n ≠ 0) : (n : Int) ≠ 0 := by omega

theorem add_comm {a b : Q} (ha : QR a) (hb : QR b) : addQ b a = addQ a b := by
 have h1 := addQ_val (a := a) (b := b)
 have h2 := addQ_val (a := b) (b := a)
 refine Q_uniq (addQ_right hb.den ha.den) (addQ_right ha.den hb.den) ?_
 generalize addQ a b = S at *
 generalize addQ b a = X at *
 have h0 : (a.d : Int) * b.d ≠ 0 := Int.mul_ne_zero (int_ne ha.den) (int_ne hb.den)
 apply Int.eq_of_mul_eq_mul_right h0
 grind
open Go.RowKit

def RetQ (q : Q) (w : World) (e : Ending) (w' : World) : Prop := ∃ x y, e = .returned (.agg #[.bool q.s, x, y]) ∧ RdN w' x q.n ∧ RdN w' y q.d ∧ Below w.heap.size w w'
def RetQE (q : Q) (c : Int) (w : World) (e : Ending) (w' : World) : Prop := ∃ x y, e = .returned (.tuple #[.agg #[.bool q.s, x, y], .int .i64 c]) ∧ RdN w' x q.n ∧ RdN w' y q.d ∧ Below w.heap.size w w'
def noQ : Q := ⟨false, 0, 0⟩
theorem RdN.none0 (w : World) : RdN w (.slice none 0 0) 0 := ⟨none, 0, rfl, Nat.le_refl _, RdL.nil⟩

theorem Blk.put3 {w : World} {g : Nat} {t : TypeId} {a b c : Value} (h : Blk w g t #[a, b, c]) (x y z : Value) :
 Blk (((w.setCell ⟨g, 0, none⟩ x).setCell ⟨g, 1, none⟩ y).setCell ⟨g, 2, none⟩ z) g t #[x, y, z] := ((h.put 0 x).put 1 y).put 2 z
theorem bel_set {w wk : World} {p : Addr} (h : Below w.heap.size w wk) (hg : w.heap.size ≤ p.block) (u : Value) : Below w.heap.size w (wk.setCell p u) := h.setCell hg u
theorem bel_set3 {w wk : World} {g : Nat} (h : Below w.heap.size w wk) (hg : w.heap.size ≤ g) (x y z : Value) :
 Below w.heap.size w (((wk.setCell ⟨g, 0, none⟩ x).setCell ⟨g, 1, none⟩ y).setCell ⟨g, 2, none⟩ z) := ((h.setCell hg x).setCell hg y).setCell hg z
theorem cell_far {w : World} {p q : Addr} (h : q.block ≠ p.block) (u : Value) : (w.setCell p u).cell? q = w.cell? q := by
 have := Below.heap_setCell w p u q.block h
 unfold World.cell?
 rw [this]
theorem RdL.other {w : World} {g : Nat} {t : TypeId} {s : Bool} {A B : Option Addr} {m m' c c' : Nat} {E : Option Addr} {xs : List Nat} (hB : Blk w g t #[.bool s, .slice A m c, .slice B m' c']) (h : RdL w E xs) (hx : 0 < xs.length) :
 ∃ b off, E = some ⟨b, off, none⟩ ∧ b < w.heap.size ∧ b ≠ g ∧ ∀ k, k < xs.length → w.cell? ⟨b, off + k, none⟩ = some (.int .u32 (xs.getD k 0 : Nat)) := by
 obtain ⟨b, off, e, hb, hc⟩ := h hx
 refine ⟨b, off, e, hb, ?_, hc⟩
 rintro rfl
 have h0 := hc 0 hx
 rw [hB.cell] at h0
 have : off + 0 = 0 ∨ off + 0 = 1 ∨ off + 0 = 2 ∨ 3 ≤ off + 0 := by omega
 rcases this with e | e | e | e
 · rw [e] at h0; simp at h0
 · rw [e] at h0; simp at h0
 · rw [e] at h0; simp at h0
 · rw [Array.getElem?_eq_none (by simpa using e)] at h0; simp at h0
theorem RdL.set3 {w : World} {g : Nat} {t : TypeId} {s : Bool} {A B : Option Addr} {m m' c c' : Nat} {E : Option Addr} {xs : List Nat} (hB : Blk w g t #[.bool s, .slice A m c, .slice B m' c']) (h : RdL w E xs) (x y z : Value) :
 RdL (((w.setCell ⟨g, 0, none⟩ x).setCell ⟨g, 1, none⟩ y).setCell ⟨g, 2, none⟩ z) E xs := by
 intro hx
 obtain ⟨b, off, e, hb, hbg, hc⟩ := RdL.other hB h hx
 refine ⟨b, off, e, by simpa using hb, fun k hk => ?_⟩
 rw [cell_far hbg, cell_far hbg, cell_far hbg]
 exact hc k hk
theorem RdN.set3 {w : World} {g : Nat} {t : TypeId} {s : Bool} {A B : Option Addr} {m m' c c' : Nat} {v : Value} {n : Nat} (hB : Blk w g t #[.bool s, .slice A m c, .slice B m' c']) (h : RdN w v n) (x y z : Value) :
 RdN (((w.setCell ⟨g, 0, none⟩ x).setCell ⟨g, 1, none⟩ y).setCell ⟨g, 2, none⟩ z) v n := by
 obtain ⟨E, cap, rfl, hcap, hr⟩ := h
 exact ⟨E, cap, rfl, hcap, RdL.set3 hB hr x y z⟩

theorem results_row_tmp {P : Program} {fn : Func} {p u : Tmp} {ty : TypeId} (h : fn.results = #[.cell p ty, .tmp u]) (tmps : Array Value) (w : World) (g : Nat) (t : TypeId) (cs : Array Value) (fr : Nat × Nat) (d : TypeDesc) (v : Value)
 (hp : tmps.getD p undef = .pointer (some ⟨g, 0, none⟩)) (hv : tmps.getD u undef = v) (hg : w.heap[g]? = some (.cells cs t fr))
 (hu : P.underlying ty = some d) (hd : (match d with | .struct _ | .array _ _ => true | _ => false) = true) (hi : (P.info? ty).map (·.size) = some cs.size) :
 (results fn tmps).run P w = .ok (.tuple #[.agg cs, v]) w := by
 rw [results_cell_tmp h, hp, hv]
 simp [asAddr, Result.andThen, run_loadVar_row w g t ty cs fr d hg hu hd hi]
end
end
end Go.Proofs.YtmbbdjpnecjleaaGreat
