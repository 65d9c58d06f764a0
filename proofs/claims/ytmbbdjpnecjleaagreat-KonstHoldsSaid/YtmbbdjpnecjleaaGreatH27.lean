/-
 Parts: K20 K21 RoDN K22 KAdd K24 K19 K25.
-/
import Derived.Test.YtmbbdjpnecjleaaGreatH26
import Derived.Test.YtmbbdjpnecjleaaGreatH16
import Derived.Test.YtmbbdjpnecjleaaGreatH19
import Derived.Test.YtmbbdjpnecjleaaGreatH25
import Derived.Test.YtmbbdjpnecjleaaGreatH23
import Derived.Test.YtmbbdjpnecjleaaGreatH24
import Derived.Test.YtmbbdjpnecjleaaGreatH18
namespace Go.Proofs.YtmbbdjpnecjleaaGreat
section
set_option maxRecDepth 100000
set_option maxHeartbeats 1000000
open Go.RowKit

structure BtR (w wr : World) (k a b i A B O P : Nat) : Prop where
 old : Below w.heap.size w wr
 eA : A = a / 2 ^ i
 eB : B = b / 2 ^ i
 eO : O = bop k (a % 2 ^ i) (b % 2 ^ i)
 eP : P = 2 ^ i
theorem BtR.lim {w wr : World} {k a b i A B O P : Nat} (h : BtR w wr k a b i A B O P) (ha : a < Top) (hb : b < Top) (hz : ¬ (A = 0 ∧ B = 0)) : A < Top ∧ B < Top ∧ O < Top ∧ P < Top := by
 have hp : 0 < 2 ^ i := Nat.pow_pos (by decide)
 have h1 : A ≤ a := by rw [h.eA]; exact Nat.div_le_self _ _
 have h2 : B ≤ b := by rw [h.eB]; exact Nat.div_le_self _ _
 have h3 : O < 2 ^ i := by rw [h.eO]; exact bop_lt k (Nat.mod_lt _ hp) (Nat.mod_lt _ hp)
 have h4 : 2 ^ i < Top := by
  rcases Nat.lt_or_ge a (2 ^ i) with ha2 | ha2
  · rcases Nat.lt_or_ge b (2 ^ i) with hb2 | hb2
    · exact absurd ⟨by rw [h.eA]; exact Nat.div_eq_of_lt ha2, by rw [h.eB]; exact Nat.div_eq_of_lt hb2⟩ hz
    · omega
  · omega
 have h5 := h.eP
 omega
theorem BtR.step {w wr w' : World} {k a b i A B O P O' : Nat} (h : BtR w wr k a b i A B O P) (hb : Below w.heap.size w w') (hO : O' = O + P * bop k (A % 2) (B % 2)) : BtR w w' k a b (i + 1) (A / 2) (B / 2) O' (P * 2 + 0) := by
 refine ⟨hb, ?_, ?_, ?_, ?_⟩
 · rw [h.eA, Nat.div_div_eq_div_mul, Nat.pow_succ]
 · rw [h.eB, Nat.div_div_eq_div_mul, Nat.pow_succ]
 · rw [hO, h.eO, h.eP, h.eA, h.eB, ← bop_low]
 · rw [h.eP, Nat.pow_succ, Nat.add_zero]
theorem BtR.done {w wr : World} {k a b i A B O P : Nat} (h : BtR w wr k a b i A B O P) (hA : A = 0) (hB : B = 0) : O = bop k a b := by
 have hp : 0 < 2 ^ i := Nat.pow_pos (by decide)
 have h1 : a < 2 ^ i := (Nat.div_eq_zero_iff_lt hp).1 (by rw [← h.eA]; exact hA)
 have h2 : b < 2 ^ i := (Nat.div_eq_zero_iff_lt hp).1 (by rw [← h.eB]; exact hB)
 rw [h.eO, Nat.mod_eq_of_lt h1, Nat.mod_eq_of_lt h2]
end
end Go.Proofs.YtmbbdjpnecjleaaGreat
namespace Go.Proofs.YtmbbdjpnecjleaaGreat
section
set_option maxRecDepth 100000
set_option maxHeartbeats 1000000
open Go.RowKit

end
end Go.Proofs.YtmbbdjpnecjleaaGreat
namespace Go.Proofs.YtmbbdjpnecjleaaGreat
section
set_option maxRecDepth 100000
set_option maxHeartbeats 1000000
section
open Go.RowKit

theorem cmpI_zero {a b : Nat} : cmpI (a : Int) (b : Int) = 0 ↔ a = b := by
 unfold cmpI
 split
 · omega
 · split <;> omega
def RetNear (hi cc : Nat) (ex : Bool) (w : World) (E : Ending) (w' : World) : Prop := E = .returned (.agg #[.int .u64 ((if hi ≤ cc then hi else cc : Nat) : Int), .bool (if hi ≤ cc then false else ex)]) ∧ Below w.heap.size w w'
theorem RetNear.over {hi cc : Nat} {ex : Bool} {w w' : World} (h : hi ≤ cc) (hb : Below w.heap.size w w') : RetNear hi cc ex w (.returned (.agg #[.int .u64 (hi : Int), .bool false])) w' := by
 unfold RetNear
 rw [if_pos h, if_pos h]
 exact ⟨rfl, hb⟩
theorem RetNear.fit {hi cc c : Nat} {ex x : Bool} {w w' : World} (h : cc ≤ hi) (hc : cc = c) (hx : ex = x) (hx2 : hi ≤ cc → x = false) (hb : Below w.heap.size w w') : RetNear hi cc ex w (.returned (.agg #[.int .u64 (c : Int), .bool x])) w' := by
 unfold RetNear
 subst hc hx
 by_cases h' : hi ≤ cc
 · rw [if_pos h', if_pos h', hx2 h', show hi = cc by omega]
   exact ⟨rfl, hb⟩
 · rw [if_neg h', if_neg h']
   exact ⟨rfl, hb⟩
end
section
open Go.RowKit

end
end
end Go.Proofs.YtmbbdjpnecjleaaGreat
namespace Go.Proofs.YtmbbdjpnecjleaaGreat
section
set_option maxRecDepth 100000
set_option maxHeartbeats 1000000
open Go.RowKit

end
end Go.Proofs.YtmbbdjpnecjleaaGreat
namespace Go.Proofs.YtmbbdjpnecjleaaGreat
section
set_option maxRecDepth 100000
set_option maxHeartbeats 1000000
open Go.RowKit

end
end Go.Proofs.YtmbbdjpnecjleaaGreat
namespace Go.Proofs.YtmbbdjpnecjleaaGreat
section
set_option maxRecDepth 100000
set_option maxHeartbeats 1000000
open Go.RowKit

def rk (e : Int) : Int := if e = 0 then 3 else 0
def rs (q : Q) (e : Int) : Bool := if e = 0 then q.s else false
def rn (q : Q) (e : Int) : ByteArray := if e = 0 then dec q.n else ⟨#[]⟩
def rd (q : Q) (e : Int) : ByteArray := if e = 0 then dec q.d else ⟨#[]⟩
theorem one_top : 1 < Top := by decide +kernel
theorem Top_pow : ∃ n, Top = 2 ^ n := ⟨32 * 16, by unfold Top; rw [show B32 = 2 ^ 32 from rfl, ← Nat.pow_mul]⟩
theorem bop_top (k : Nat) {x y : Nat} (h : x < Top) (h' : y < Top) : bop k x y < Top := by
 obtain ⟨n, hn⟩ := Top_pow
 rw [hn] at h h' ⊢
 exact bop_lt k h h'
theorem fit_whole {x : Nat} (h : x < Top) : Fit ⟨false, x, 1⟩ := ⟨h, one_top, Nat.one_ne_zero, fun _ => rfl, Nat.gcd_one_right x⟩
end
end Go.Proofs.YtmbbdjpnecjleaaGreat
namespace Go.Proofs.YtmbbdjpnecjleaaGreat
section
set_option maxRecDepth 100000
set_option maxHeartbeats 1000000
open Go.RowKit

def inB (L : List ByteArray) (s : ByteArray) : Bool := L.any fun x => x.toList == s.toList
def ops8 : List ByteArray := [⟨#[43]⟩, ⟨#[45]⟩, ⟨#[42]⟩, ⟨#[47]⟩, ⟨#[37]⟩, ⟨#[38]⟩, ⟨#[124]⟩, ⟨#[94]⟩]
end
end Go.Proofs.YtmbbdjpnecjleaaGreat
namespace Go.Proofs.YtmbbdjpnecjleaaGreat
section
set_option maxRecDepth 100000
set_option maxHeartbeats 1000000
open Go.RowKit

theorem rIs_num (q : Q) (A B : Option Addr) (c d : Nat) (w : World) (h : RdL w A (limbs q.n)) (h' : RdL w B (limbs q.d)) (hc : (limbs q.n).length ≤ c) (hc' : (limbs q.d).length ≤ d) (hn : q.n < Top) (hd : q.d < Top) (hq : QR q) :
 Calls Tryz.prog 35 #[.agg #[.int .i64 3, .bool false, .string ⟨#[]⟩, .bool q.s, .slice A (limbs q.n).length c, .slice B (limbs q.d).length d], .agg #[.int .i64 3, .bool false, .string ⟨#[]⟩, .bool q.s, .string (dec q.n), .string (dec q.d), .bool false, .int .i64 0]] w (RetBB true w) := by
 have RA := Lib.hid h; clear h
 have RB := Lib.hid h'; clear h'
 have LA := Lib.hid (And.intro hn hc); clear hn hc
 have LB := Lib.hid (And.intro hd hc'); clear hd hc'
 have QQ := Lib.hid hq; clear hq
 obtain ⟨wa, hwa⟩ : ∃ wa, wa = (w.alloc (.cells #[.int .i64 3, .bool false, .string ⟨#[]⟩, .bool q.s, .slice A (limbs q.n).length c, .slice B (limbs q.d).length d] 27)).alloc (.cells #[.int .i64 3, .bool false, .string ⟨#[]⟩, .bool q.s, .string (dec q.n), .string (dec q.d), .bool false, .int .i64 0] 39) := ⟨_, rfl⟩
 obtain ⟨hbl, CX, CV⟩ := kal2 hwa
 replace RA := hmR RA hbl
 replace RB := hmR RB hbl
 have HW := Lib.hid hbl; clear hbl
 replace CX := Lib.hid CX
 replace CV := Lib.hid CV
 go_enter Tryz.func35, Tryz.ntmps35
 go_upto_region 1 with fail
 rw [← hwa]
 clear hwa
 obtain ⟨CX0, CX1, CX2, CX3, CX4, CX5⟩ := CX.out.cs6
 obtain ⟨CV0, CV1, CV2, CV3, CV4, CV5, CV6, CV7⟩ := CV.out.cs8
 go_wp2_with fail
 refine (rRight_any 3 false ⟨#[]⟩ q.s A B c d (limbs q.n) (limbs q.d) _ RA.out RB.out (limbs_lim _) (limbs_lim _) (len18 LA.out.1) (len18 LB.out.1)).mono ?_
 rintro e w1 ⟨rfl, hbl⟩
 replace RA := hmR RA hbl
 replace RB := hmR RB hbl
 replace CX := hmB CX hbl
 replace CV := hmB CV hbl
 replace HW := hmW HW hbl; clear hbl
 clear CX0 CX1 CX2 CX3 CX4 CX5 CV0 CV1 CV2 CV3 CV4 CV5 CV6 CV7
 obtain ⟨CX0, CX1, CX2, CX3, CX4, CX5⟩ := CX.out.cs6
 obtain ⟨CV0, CV1, CV2, CV3, CV4, CV5, CV6, CV7⟩ := CV.out.cs8
 rw [rightV_num LA.out.1 LB.out.1 QQ.out]
 go_wp2_with fail
 refine (refIs_true q false A B c d _ RA.out RB.out LA.out.1 LB.out.1 QQ.out).mono ?_
 rintro e w2 ⟨rfl, hbl⟩
 replace RA := hmR RA hbl
 replace RB := hmR RB hbl
 replace CX := hmB CX hbl
 replace CV := hmB CV hbl
 replace HW := hmW HW hbl; clear hbl
 clear CX0 CX1 CX2 CX3 CX4 CX5 CV0 CV1 CV2 CV3 CV4 CV5 CV6 CV7
 obtain ⟨CX0, CX1, CX2, CX3, CX4, CX5⟩ := CX.out.cs6
 obtain ⟨CV0, CV1, CV2, CV3, CV4, CV5, CV6, CV7⟩ := CV.out.cs8
 go_wp2
 go_ret
 exact ⟨rfl, HW.out⟩
theorem rIs_1 (b : Bool) (s : ByteArray) (A B : Option Addr) (c d : Nat) (w : World) (hr : rightV 1 b s false [] [] = true) :
 Calls Tryz.prog 35 #[.agg #[.int .i64 1, .bool b, .string s, .bool false, .slice A 0 c, .slice B 0 d], .agg #[.int .i64 1, .bool b, .string s, .bool false, .string ⟨#[]⟩, .string ⟨#[]⟩, .bool false, .int .i64 0]] w (RetBB true w) := by
 have HR := Lib.hid hr; clear hr
 have s1 : (s.toList == s.toList) = true := by simp
 obtain ⟨wa, hwa⟩ : ∃ wa, wa = (w.alloc (.cells #[.int .i64 1, .bool b, .string s, .bool false, .slice A 0 c, .slice B 0 d] 27)).alloc (.cells #[.int .i64 1, .bool b, .string s, .bool false, .string ⟨#[]⟩, .string ⟨#[]⟩, .bool false, .int .i64 0] 39) := ⟨_, rfl⟩
 obtain ⟨hbl, CX, CV⟩ := kal2 hwa
 have HW := Lib.hid hbl; clear hbl
 replace CX := Lib.hid CX
 replace CV := Lib.hid CV
 go_enter Tryz.func35, Tryz.ntmps35
 go_upto_region 1 with fail
 rw [← hwa]
 clear hwa
 obtain ⟨CX0, CX1, CX2, CX3, CX4, CX5⟩ := CX.out.cs6
 obtain ⟨CV0, CV1, CV2, CV3, CV4, CV5, CV6, CV7⟩ := CV.out.cs8
 go_wp2_with fail
 refine (rRight_any 1 b s false A B c d [] [] _ RdL.nil RdL.nil (by intro _ h; cases h) (by intro _ h; cases h) (by simp) (by simp)).mono ?_
 rintro e w1 ⟨rfl, hbl⟩
 replace CX := hmB CX hbl
 replace CV := hmB CV hbl
 replace HW := hmW HW hbl; clear hbl
 clear CX0 CX1 CX2 CX3 CX4 CX5 CV0 CV1 CV2 CV3 CV4 CV5 CV6 CV7
 obtain ⟨CX0, CX1, CX2, CX3, CX4, CX5⟩ := CX.out.cs6
 obtain ⟨CV0, CV1, CV2, CV3, CV4, CV5, CV6, CV7⟩ := CV.out.cs8
 rw [HR.out]
 cases b
 all_goals
  go_wp2
  go_ret
  first | exact ⟨rfl, HW.out⟩ | (refine ret_bb ?_ HW.out; simp)
theorem rIs_2 (b : Bool) (s : ByteArray) (A B : Option Addr) (c d : Nat) (w : World) (hr : rightV 2 b s false [] [] = true) :
 Calls Tryz.prog 35 #[.agg #[.int .i64 2, .bool b, .string s, .bool false, .slice A 0 c, .slice B 0 d], .agg #[.int .i64 2, .bool b, .string s, .bool false, .string ⟨#[]⟩, .string ⟨#[]⟩, .bool false, .int .i64 0]] w (RetBB true w) := by
 have HR := Lib.hid hr; clear hr
 have s1 : (s.toList == s.toList) = true := by simp
 obtain ⟨wa, hwa⟩ : ∃ wa, wa = (w.alloc (.cells #[.int .i64 2, .bool b, .string s, .bool false, .slice A 0 c, .slice B 0 d] 27)).alloc (.cells #[.int .i64 2, .bool b, .string s, .bool false, .string ⟨#[]⟩, .string ⟨#[]⟩, .bool false, .int .i64 0] 39) := ⟨_, rfl⟩
 obtain ⟨hbl, CX, CV⟩ := kal2 hwa
 have HW := Lib.hid hbl; clear hbl
 replace CX := Lib.hid CX
 replace CV := Lib.hid CV
 go_enter Tryz.func35, Tryz.ntmps35
 go_upto_region 1 with fail
 rw [← hwa]
 clear hwa
 obtain ⟨CX0, CX1, CX2, CX3, CX4, CX5⟩ := CX.out.cs6
 obtain ⟨CV0, CV1, CV2, CV3, CV4, CV5, CV6, CV7⟩ := CV.out.cs8
 go_wp2_with fail
 refine (rRight_any 2 b s false A B c d [] [] _ RdL.nil RdL.nil (by intro _ h; cases h) (by intro _ h; cases h) (by simp) (by simp)).mono ?_
 rintro e w1 ⟨rfl, hbl⟩
 replace CX := hmB CX hbl
 replace CV := hmB CV hbl
 replace HW := hmW HW hbl; clear hbl
 clear CX0 CX1 CX2 CX3 CX4 CX5 CV0 CV1 CV2 CV3 CV4 CV5 CV6 CV7
 obtain ⟨CX0, CX1, CX2, CX3, CX4, CX5⟩ := CX.out.cs6
 obtain ⟨CV0, CV1, CV2, CV3, CV4, CV5, CV6, CV7⟩ := CV.out.cs8
 rw [HR.out]
 cases b
 all_goals
  go_wp2
  go_ret
  first | exact ⟨rfl, HW.out⟩ | (refine ret_bb ?_ HW.out; simp)
theorem rLike_zero (A B : Option Addr) (c d : Nat) (w : World) :
 Calls Tryz.prog 17 #[.agg #[.int .i64 0, .bool false, .string ⟨#[]⟩, .bool false, .slice A 0 c, .slice B 0 d], .agg #[.int .i64 0, .bool false, .string ⟨#[]⟩, .bool false, .slice none 0 0, .slice none 0 0]] w (RetBB true w) := by
 obtain ⟨wa, hwa⟩ : ∃ wa, wa = (w.alloc (.cells #[.int .i64 0, .bool false, .string ⟨#[]⟩, .bool false, .slice A 0 c, .slice B 0 d] 27)).alloc (.cells #[.int .i64 0, .bool false, .string ⟨#[]⟩, .bool false, .slice none 0 0, .slice none 0 0] 27) := ⟨_, rfl⟩
 obtain ⟨hbl, CX, CY⟩ := kal2 hwa
 have HW := Lib.hid hbl; clear hbl
 replace CX := Lib.hid CX
 replace CY := Lib.hid CY
 go_enter Tryz.func17, Tryz.ntmps17
 go_upto_region 1 with fail
 rw [← hwa]
 clear hwa
 obtain ⟨CX0, CX1, CX2, CX3, CX4, CX5⟩ := CX.out.cs6
 obtain ⟨CY0, CY1, CY2, CY3, CY4, CY5⟩ := CY.out.cs6
 go_wp2_with fail
 refine (same_none A B c d _).mono ?_
 rintro e w1 ⟨rfl, hbl⟩
 replace CX := hmB CX hbl
 replace CY := hmB CY hbl
 replace HW := hmW HW hbl; clear hbl
 clear CX0 CX1 CX2 CX3 CX4 CX5 CY0 CY1 CY2 CY3 CY4 CY5
 obtain ⟨CX0, CX1, CX2, CX3, CX4, CX5⟩ := CX.out.cs6
 obtain ⟨CY0, CY1, CY2, CY3, CY4, CY5⟩ := CY.out.cs6
 go_wp2
 go_ret
 exact ⟨rfl, HW.out⟩
theorem is_err (e : Int) (A B : Option Addr) (c d : Nat) (w : World) (he : ¬ e = 0) :
 Calls Tryz.prog 10 #[.agg #[.int .i64 0, .bool false, .string ⟨#[]⟩, .bool false, .slice A 0 c, .slice B 0 d], .int .i64 e, .agg #[.int .i64 0, .bool false, .string ⟨#[]⟩, .bool false, .string ⟨#[]⟩, .string ⟨#[]⟩, .bool false, .int .i64 e]] w (RetBB true w) := by
 have e1 : (e != 0) = true := by simpa using he
 have e2 : ¬ e = 0 := he
 have e3 : (e == e) = true := by simp
 have HE := Lib.hid he; clear he
 obtain ⟨wa, hwa⟩ : ∃ wa, wa = (w.alloc (.cells #[.int .i64 0, .bool false, .string ⟨#[]⟩, .bool false, .slice A 0 c, .slice B 0 d] 27)).alloc (.cells #[.int .i64 0, .bool false, .string ⟨#[]⟩, .bool false, .string ⟨#[]⟩, .string ⟨#[]⟩, .bool false, .int .i64 e] 39) := ⟨_, rfl⟩
 obtain ⟨hbl, CX, CV⟩ := kal2 hwa
 have HW := Lib.hid hbl; clear hbl
 replace CX := Lib.hid CX
 replace CV := Lib.hid CV
 go_enter Tryz.func10, Tryz.ntmps10
 go_upto_region 1 with fail
 rw [← hwa]
 clear hwa
 obtain ⟨CX0, CX1, CX2, CX3, CX4, CX5⟩ := CX.out.cs6
 obtain ⟨CV0, CV1, CV2, CV3, CV4, CV5, CV6, CV7⟩ := CV.out.cs8
 go_wp2_with fail
 refine (rLike_zero A B c d _).mono ?_
 rintro e w1 ⟨rfl, hbl⟩
 replace CX := hmB CX hbl
 replace CV := hmB CV hbl
 replace HW := hmW HW hbl; clear hbl
 clear CX0 CX1 CX2 CX3 CX4 CX5 CV0 CV1 CV2 CV3 CV4 CV5 CV6 CV7
 obtain ⟨CX0, CX1, CX2, CX3, CX4, CX5⟩ := CX.out.cs6
 obtain ⟨CV0, CV1, CV2, CV3, CV4, CV5, CV6, CV7⟩ := CV.out.cs8
 go_wp2
 go_ret
 exact ⟨rfl, HW.out⟩
theorem is_num (q : Q) (A B : Option Addr) (c d : Nat) (w : World) (h : RdL w A (limbs q.n)) (h' : RdL w B (limbs q.d)) (hc : (limbs q.n).length ≤ c) (hc' : (limbs q.d).length ≤ d) (hn : q.n < Top) (hd : q.d < Top) (hq : QR q) :
 Calls Tryz.prog 10 #[.agg #[.int .i64 3, .bool false, .string ⟨#[]⟩, .bool q.s, .slice A (limbs q.n).length c, .slice B (limbs q.d).length d], .int .i64 0, .agg #[.int .i64 3, .bool false, .string ⟨#[]⟩, .bool q.s, .string (dec q.n), .string (dec q.d), .bool false, .int .i64 0]] w (RetBB true w) := by
 have RA := Lib.hid h; clear h
 have RB := Lib.hid h'; clear h'
 have LA := Lib.hid (And.intro hn hc); clear hn hc
 have LB := Lib.hid (And.intro hd hc'); clear hd hc'
 have QQ := Lib.hid hq; clear hq
 obtain ⟨wa, hwa⟩ : ∃ wa, wa = (w.alloc (.cells #[.int .i64 3, .bool false, .string ⟨#[]⟩, .bool q.s, .slice A (limbs q.n).length c, .slice B (limbs q.d).length d] 27)).alloc (.cells #[.int .i64 3, .bool false, .string ⟨#[]⟩, .bool q.s, .string (dec q.n), .string (dec q.d), .bool false, .int .i64 0] 39) := ⟨_, rfl⟩
 obtain ⟨hbl, CX, CV⟩ := kal2 hwa
 replace RA := hmR RA hbl
 replace RB := hmR RB hbl
 have HW := Lib.hid hbl; clear hbl
 replace CX := Lib.hid CX
 replace CV := Lib.hid CV
 go_enter Tryz.func10, Tryz.ntmps10
 go_upto_region 1 with fail
 rw [← hwa]
 clear hwa
 obtain ⟨CX0, CX1, CX2, CX3, CX4, CX5⟩ := CX.out.cs6
 obtain ⟨CV0, CV1, CV2, CV3, CV4, CV5, CV6, CV7⟩ := CV.out.cs8
 go_wp2_with fail
 refine (rIs_num q A B c d _ RA.out RB.out LA.out.2 LB.out.2 LA.out.1 LB.out.1 QQ.out).mono ?_
 rintro e w1 ⟨rfl, hbl⟩
 replace RA := hmR RA hbl
 replace RB := hmR RB hbl
 replace CX := hmB CX hbl
 replace CV := hmB CV hbl
 replace HW := hmW HW hbl; clear hbl
 clear CX0 CX1 CX2 CX3 CX4 CX5 CV0 CV1 CV2 CV3 CV4 CV5 CV6 CV7
 obtain ⟨CX0, CX1, CX2, CX3, CX4, CX5⟩ := CX.out.cs6
 obtain ⟨CV0, CV1, CV2, CV3, CV4, CV5, CV6, CV7⟩ := CV.out.cs8
 go_wp2
 go_ret
 exact ⟨rfl, HW.out⟩
theorem is_1 (b : Bool) (s : ByteArray) (A B : Option Addr) (c d : Nat) (w : World) (hr : rightV 1 b s false [] [] = true) :
 Calls Tryz.prog 10 #[.agg #[.int .i64 1, .bool b, .string s, .bool false, .slice A 0 c, .slice B 0 d], .int .i64 0, .agg #[.int .i64 1, .bool b, .string s, .bool false, .string ⟨#[]⟩, .string ⟨#[]⟩, .bool false, .int .i64 0]] w (RetBB true w) := by
 have HR := Lib.hid hr; clear hr
 obtain ⟨wa, hwa⟩ : ∃ wa, wa = (w.alloc (.cells #[.int .i64 1, .bool b, .string s, .bool false, .slice A 0 c, .slice B 0 d] 27)).alloc (.cells #[.int .i64 1, .bool b, .string s, .bool false, .string ⟨#[]⟩, .string ⟨#[]⟩, .bool false, .int .i64 0] 39) := ⟨_, rfl⟩
 obtain ⟨hbl, CX, CV⟩ := kal2 hwa
 have HW := Lib.hid hbl; clear hbl
 replace CX := Lib.hid CX
 replace CV := Lib.hid CV
 go_enter Tryz.func10, Tryz.ntmps10
 go_upto_region 1 with fail
 rw [← hwa]
 clear hwa
 obtain ⟨CX0, CX1, CX2, CX3, CX4, CX5⟩ := CX.out.cs6
 obtain ⟨CV0, CV1, CV2, CV3, CV4, CV5, CV6, CV7⟩ := CV.out.cs8
 go_wp2_with fail
 refine (rIs_1 b s A B c d _ HR.out).mono ?_
 rintro e w1 ⟨rfl, hbl⟩
 replace CX := hmB CX hbl
 replace CV := hmB CV hbl
 replace HW := hmW HW hbl; clear hbl
 clear CX0 CX1 CX2 CX3 CX4 CX5 CV0 CV1 CV2 CV3 CV4 CV5 CV6 CV7
 obtain ⟨CX0, CX1, CX2, CX3, CX4, CX5⟩ := CX.out.cs6
 obtain ⟨CV0, CV1, CV2, CV3, CV4, CV5, CV6, CV7⟩ := CV.out.cs8
 go_wp2
 go_ret
 exact ⟨rfl, HW.out⟩
theorem is_2 (b : Bool) (s : ByteArray) (A B : Option Addr) (c d : Nat) (w : World) (hr : rightV 2 b s false [] [] = true) :
 Calls Tryz.prog 10 #[.agg #[.int .i64 2, .bool b, .string s, .bool false, .slice A 0 c, .slice B 0 d], .int .i64 0, .agg #[.int .i64 2, .bool b, .string s, .bool false, .string ⟨#[]⟩, .string ⟨#[]⟩, .bool false, .int .i64 0]] w (RetBB true w) := by
 have HR := Lib.hid hr; clear hr
 obtain ⟨wa, hwa⟩ : ∃ wa, wa = (w.alloc (.cells #[.int .i64 2, .bool b, .string s, .bool false, .slice A 0 c, .slice B 0 d] 27)).alloc (.cells #[.int .i64 2, .bool b, .string s, .bool false, .string ⟨#[]⟩, .string ⟨#[]⟩, .bool false, .int .i64 0] 39) := ⟨_, rfl⟩
 obtain ⟨hbl, CX, CV⟩ := kal2 hwa
 have HW := Lib.hid hbl; clear hbl
 replace CX := Lib.hid CX
 replace CV := Lib.hid CV
 go_enter Tryz.func10, Tryz.ntmps10
 go_upto_region 1 with fail
 rw [← hwa]
 clear hwa
 obtain ⟨CX0, CX1, CX2, CX3, CX4, CX5⟩ := CX.out.cs6
 obtain ⟨CV0, CV1, CV2, CV3, CV4, CV5, CV6, CV7⟩ := CV.out.cs8
 go_wp2_with fail
 refine (rIs_2 b s A B c d _ HR.out).mono ?_
 rintro e w1 ⟨rfl, hbl⟩
 replace CX := hmB CX hbl
 replace CV := hmB CV hbl
 replace HW := hmW HW hbl; clear hbl
 clear CX0 CX1 CX2 CX3 CX4 CX5 CV0 CV1 CV2 CV3 CV4 CV5 CV6 CV7
 obtain ⟨CX0, CX1, CX2, CX3, CX4, CX5⟩ := CX.out.cs6
 obtain ⟨CV0, CV1, CV2, CV3, CV4, CV5, CV6, CV7⟩ := CV.out.cs8
 go_wp2
 go_ret
 exact ⟨rfl, HW.out⟩
theorem rdn_one {w : World} {g : Nat} {t : TypeId} {k : Nat} (hB : Blk w g t #[.int .u32 (k : Int)]) (hk : limbs k = [k]) : RdN w (.slice (some ⟨g, 0, none⟩) 1 1) k := ⟨some ⟨g, 0, none⟩, 1, by rw [hk]; rfl, by rw [hk]; exact Nat.le_refl _, rd_one hB hk⟩
theorem val_7 (w : World) : Calls Tryz.prog 33 #[.int .u32 7, .bool true] w (RetP ⟨true, 7, 1⟩ w) := by
 obtain ⟨wa, hwa⟩ : ∃ wa, wa = w.alloc (.cells #[.int .i64 0, .bool false, .string ⟨#[]⟩, .bool false, .slice none 0 0, .slice none 0 0] 27) := ⟨_, rfl⟩
 obtain ⟨hbl, RES⟩ := kal1 hwa
 have HW := Lib.hid hbl; clear hbl
 replace RES := Lib.hid RES
 go_enter Tryz.func33, Tryz.ntmps33
 go_upto_region 1 with fail
 rw [← hwa]
 clear hwa
 go_upto_region 2 with fail
 obtain ⟨wb, hwb⟩ : ∃ wb, wb = ((wa.alloc (.cells #[.int .u32 7] 62)).alloc (.cells #[.int .u32 1] 62)).alloc (.cells #[.bool true, .slice (some ⟨wa.heap.size, 0, none⟩) 1 1, .slice (some ⟨wa.heap.size + 1, 0, none⟩) 1 1] 25) := ⟨_, rfl⟩
 rw [← hwb]
 obtain ⟨hbl, N1, N2, CR⟩ := sal3 hwb
 clear hwb
 replace RES := hmB RES hbl
 replace HW := hmW HW hbl; clear hbl
 obtain ⟨CR0, CR1, CR2⟩ := CR.out.cs3
 have HX := Lib.hid (rdn_one (k := 7) N1.out (by decide +kernel))
 have HY := Lib.hid (rdn_one (k := 1) N2.out (by decide +kernel))
 obtain ⟨d0, d1, d2, d3, d4, d5⟩ := RES.out.cs6
 obtain ⟨f0, f1, f2, f3, f4, f5⟩ := RES.out.fz6
 go_wp2
 exact bodyPost_ret (results_cell_row rfl _ _ (w.heap.size) 27 _ (0, 0) _ rfl (RES.out.put6 _ _ _ _ _ _) Tryz.underlying27 rfl (by kernel_rfl)) rfl ⟨_, _, rfl, (RdN.set6 RES.out rfl (HX.out) _ _ _ _ _ _), (RdN.set6 RES.out rfl (HY.out) _ _ _ _ _ _), (bel_set6 (g := w.heap.size) HW.out (Nat.le_refl _) _ _ _ _ _ _)⟩
theorem val_2 (w : World) : Calls Tryz.prog 33 #[.int .u32 2, .bool false] w (RetP ⟨false, 2, 1⟩ w) := by
 obtain ⟨wa, hwa⟩ : ∃ wa, wa = w.alloc (.cells #[.int .i64 0, .bool false, .string ⟨#[]⟩, .bool false, .slice none 0 0, .slice none 0 0] 27) := ⟨_, rfl⟩
 obtain ⟨hbl, RES⟩ := kal1 hwa
 have HW := Lib.hid hbl; clear hbl
 replace RES := Lib.hid RES
 go_enter Tryz.func33, Tryz.ntmps33
 go_upto_region 1 with fail
 rw [← hwa]
 clear hwa
 go_upto_region 2 with fail
 obtain ⟨wb, hwb⟩ : ∃ wb, wb = ((wa.alloc (.cells #[.int .u32 2] 62)).alloc (.cells #[.int .u32 1] 62)).alloc (.cells #[.bool false, .slice (some ⟨wa.heap.size, 0, none⟩) 1 1, .slice (some ⟨wa.heap.size + 1, 0, none⟩) 1 1] 25) := ⟨_, rfl⟩
 rw [← hwb]
 obtain ⟨hbl, N1, N2, CR⟩ := sal3 hwb
 clear hwb
 replace RES := hmB RES hbl
 replace HW := hmW HW hbl; clear hbl
 obtain ⟨CR0, CR1, CR2⟩ := CR.out.cs3
 have HX := Lib.hid (rdn_one (k := 2) N1.out (by decide +kernel))
 have HY := Lib.hid (rdn_one (k := 1) N2.out (by decide +kernel))
 obtain ⟨d0, d1, d2, d3, d4, d5⟩ := RES.out.cs6
 obtain ⟨f0, f1, f2, f3, f4, f5⟩ := RES.out.fz6
 go_wp2
 exact bodyPost_ret (results_cell_row rfl _ _ (w.heap.size) 27 _ (0, 0) _ rfl (RES.out.put6 _ _ _ _ _ _) Tryz.underlying27 rfl (by kernel_rfl)) rfl ⟨_, _, rfl, (RdN.set6 RES.out rfl (HX.out) _ _ _ _ _ _), (RdN.set6 RES.out rfl (HY.out) _ _ _ _ _ _), (bel_set6 (g := w.heap.size) HW.out (Nat.le_refl _) _ _ _ _ _ _)⟩
theorem kText_num (q : Q) (A B : Option Addr) (c d : Nat) (w : World) (h : RdL w A (limbs q.n)) (h' : RdL w B (limbs q.d)) (hc : (limbs q.n).length ≤ c) (hc' : (limbs q.d).length ≤ d) (hn : q.n < Top) (hd : q.d < Top) (hq : QR q) :
 Calls Tryz.prog 34 #[.agg #[.int .i64 3, .bool false, .string ⟨#[]⟩, .bool q.s, .slice A (limbs q.n).length c, .slice B (limbs q.d).length d]] w (RetSE (qText q.s q.n q.d) 0 w) := by
 have RA := Lib.hid h; clear h
 have RB := Lib.hid h'; clear h'
 have LA := Lib.hid (And.intro hn hc); clear hn hc
 have LB := Lib.hid (And.intro hd hc'); clear hd hc'
 have QQ := Lib.hid hq; clear hq
 obtain ⟨wa, hwa⟩ : ∃ wa, wa = w.alloc (.cells #[.int .i64 3, .bool false, .string ⟨#[]⟩, .bool q.s, .slice A (limbs q.n).length c, .slice B (limbs q.d).length d] 27) := ⟨_, rfl⟩
 obtain ⟨hbl, CX⟩ := kal1 hwa
 replace RA := hmR RA hbl
 replace RB := hmR RB hbl
 have HW := Lib.hid hbl; clear hbl
 replace CX := Lib.hid CX
 go_enter Tryz.func34, Tryz.ntmps34
 go_upto_region 1 with fail
 rw [← hwa]
 clear hwa
 obtain ⟨CX0, CX1, CX2, CX3, CX4, CX5⟩ := CX.out.cs6
 go_wp2_with fail
 refine (kRight_any 3 false ⟨#[]⟩ q.s A B c d (limbs q.n) (limbs q.d) _ RA.out RB.out (limbs_lim _) (limbs_lim _) (len18 LA.out.1) (len18 LB.out.1) LA.out.2 LB.out.2).mono ?_
 rintro e w1 ⟨rfl, hbl⟩
 replace RA := hmR RA hbl
 replace RB := hmR RB hbl
 replace CX := hmB CX hbl
 replace HW := hmW HW hbl; clear hbl
 clear CX0 CX1 CX2 CX3 CX4 CX5
 obtain ⟨CX0, CX1, CX2, CX3, CX4, CX5⟩ := CX.out.cs6
 rw [rightV_num LA.out.1 LB.out.1 QQ.out]
 go_wp2_with fail
 refine (rtext_q q A B c d _ RA.out RB.out LA.out.2 LB.out.2 LA.out.1 LB.out.1 QQ.out).mono ?_
 rintro e w2 ⟨rfl, hbl⟩
 replace RA := hmR RA hbl
 replace RB := hmR RB hbl
 replace CX := hmB CX hbl
 replace HW := hmW HW hbl; clear hbl
 clear CX0 CX1 CX2 CX3 CX4 CX5
 obtain ⟨CX0, CX1, CX2, CX3, CX4, CX5⟩ := CX.out.cs6
 go_wp2
 go_ret2
 exact ⟨rfl, HW.out⟩
theorem min_int15 (m n : Nat) (c : Int) (hc : c = (m : Int)) : ∀ W, (Builtin.min_ #[3, 3] 3 #[.int .i64 (n : Int), .int .i64 c]).run Tryz.prog W = .ok (.int .i64 ((min n m : Nat) : Int)) W := fun W => by
 subst hc
 rw [run_min_int2]
 congr 2
 omega
theorem cut_str15 (s : ByteArray) (m : Nat) : ∃ n s', n = min s.size m ∧ s.extract 0 n = s' ∧ s'.size = n ∧ n ≤ s.size ∧ n ≤ m := ⟨_, _, rfl, rfl, by simp, by omega, by omega⟩
theorem fewV_is (k : Int) (b g : Bool) (s s' : ByteArray) (A B : Option Addr) (c d : Nat) (xs ys xs' ys' : List Nat) (w : World) (hc : xs.length ≤ c) (hc' : ys.length ≤ d) (hx : few xs = xs') (hy : few ys = ys') (hss : s.extract 0 (min s.size 203) = s') :
 Calls Tryz.prog 5 #[.agg #[.int .i64 k, .bool b, .string s, .bool g, .slice A xs.length c, .slice B ys.length d]] w (fun e w' => e = .returned (.agg #[.int .i64 k, .bool b, .string s', .bool g, .slice A xs'.length c, .slice B ys'.length d]) ∧ Below w.heap.size w w') := by
 obtain ⟨n, hn⟩ : ∃ n, n = (few xs).length := ⟨_, rfl⟩
 obtain ⟨m, hm⟩ : ∃ m, m = (few ys).length := ⟨_, rfl⟩
 have hn2 := few_len xs
 rw [← hn] at hn2
 have hm2 := few_len ys
 rw [← hm] at hm2
 have hmin1 : ∀ W, (Builtin.min_ #[3, 3] 3 #[.int .i64 (xs.length : Int), .int .i64 18]).run Tryz.prog W = .ok (.int .i64 (n : Int)) W := fun W => by rw [run_min_int2, hn2]; congr 2; omega
 have hmin2 : ∀ W, (Builtin.min_ #[3, 3] 3 #[.int .i64 (ys.length : Int), .int .i64 18]).run Tryz.prog W = .ok (.int .i64 (m : Int)) W := fun W => by rw [run_min_int2, hm2]; congr 2; omega
 obtain ⟨i0, hi, hz0, hz1, hz2⟩ := info_parts info_u32
 have hcut1 := fun W => run_cut_to (P := Tryz.prog) 23 62 i0 (by kernel_rfl) hi A xs.length c n (by omega) W
 have hcut2 := fun W => run_cut_to (P := Tryz.prog) 23 62 i0 (by kernel_rfl) hi B ys.length d m (by omega) W
 rw [hx] at hn
 rw [hy] at hm
 have HN := Lib.hid (And.intro hn (And.intro hm (And.intro hn2 (And.intro hm2 (And.intro hi (And.intro hx hy)))))); clear hn hm hn2 hm2 hi hx hy
 obtain ⟨j, s1, hj, hs, hsz, hj1, hj2⟩ := cut_str15 s 203
 have hmin3 := min_int15 203 s.size 203 rfl
 rw [← hj] at hmin3
 have hj' : (j : Int) ≤ (s.size : Int) := by omega
 have HS := Lib.hid (And.intro hs (And.intro hj hsz)); clear hs hj hsz
 have HSS := Lib.hid hss; clear hss
 obtain ⟨wa, hwa⟩ : ∃ wa, wa = (w.alloc (.cells #[.int .i64 k, .bool b, .string s, .bool g, .slice A xs.length c, .slice B ys.length d] 27)).alloc (.cells #[.int .i64 0, .bool false, .string ⟨#[]⟩, .bool false, .slice none 0 0, .slice none 0 0] 27) := ⟨_, rfl⟩
 obtain ⟨hbl, CX, RES⟩ := kal2 hwa
 have HW := Lib.hid hbl; clear hbl
 replace CX := Lib.hid CX
 replace RES := Lib.hid RES
 go_enter Tryz.func5, Tryz.ntmps5
 go_upto_region 1 with fail
 rw [← hwa]
 clear hwa
 obtain ⟨CX0, CX1, CX2, CX3, CX4, CX5⟩ := CX.out.cs6
 obtain ⟨y0, y1, y2, y3, y4, y5⟩ := CX.out.fz6
 go_upto_region 2 with fail
 rw [HS.out.1]
 clear y0 y1 y2 y3 y4 y5
 obtain ⟨wk, hwk⟩ : ∃ wk, wk = (wa.setCell ⟨w.heap.size, 2, none⟩ (.string s1)) := ⟨_, rfl⟩
 rw [← hwk]
 replace CX := Lib.hid (show Blk wk (w.heap.size) 27 #[.int .i64 k, .bool b, .string s1, .bool g, .slice A xs.length c, .slice B ys.length d] by rw [hwk]; exact (CX.out).put 2 (.string s1))
 replace RES := Lib.hid (show Blk wk (w.heap.size + 1) 27 #[.int .i64 0, .bool false, .string ⟨#[]⟩, .bool false, .slice none 0 0, .slice none 0 0] by rw [hwk]; exact (RES.out).far (p := ⟨w.heap.size, 2, none⟩) (by simp) _)
 replace HW := Lib.hid (show Below w.heap.size w wk by rw [hwk]; exact bel_set (p := ⟨w.heap.size, 2, none⟩) (HW.out) (by show w.heap.size ≤ w.heap.size; omega) _)
 clear hwk
 clear CX0 CX1 CX2 CX3 CX4 CX5
 obtain ⟨CX0, CX1, CX2, CX3, CX4, CX5⟩ := CX.out.cs6
 refine wp_region_typed 23 (TOf [VIs (.pointer (some ⟨w.heap.size, 3, none⟩)),
  VIs (.pointer (some ⟨w.heap.size, 3, none⟩)),
  VIs (.bool g),
  VIs (.pointer (some ⟨w.heap.size, 3, none⟩)),
  VIs (.pointer (some ⟨w.heap.size, 4, none⟩)),
  VIs (.slice A xs.length c),
  VIs (.pointer (some ⟨w.heap.size, 3, none⟩)),
  VIs (.pointer (some ⟨w.heap.size, 4, none⟩)),
  VIs (.slice A xs.length c),
  VIs (.int .i64 (xs.length : Int)),
  VIs (.int .i64 (n : Int)),
  VIs (.slice A n c),
  VIs (.pointer (some ⟨w.heap.size, 3, none⟩)),
  VIs (.pointer (some ⟨w.heap.size, 5, none⟩)),
  VIs (.slice B ys.length d),
  VIs (.pointer (some ⟨w.heap.size, 3, none⟩)),
  VIs (.pointer (some ⟨w.heap.size, 5, none⟩)),
  VIs (.slice B ys.length d),
  VIs (.int .i64 (ys.length : Int)),
  VIs (.int .i64 (m : Int)),
  VIs (.slice B m d),
  VIs (.agg #[.bool g, .slice A n c, .slice B m d]),
  VIs (.pointer (some ⟨w.heap.size, 3, none⟩))]) (by kernel_rfl) (by kernel_rfl) (by kernel_rfl) (LiftAll.at_ (.cons (VIs.lift _) (.cons (VIs.lift _) (.cons (VIs.lift _) (.cons (VIs.lift _) (.cons (VIs.lift _) (.cons (VIs.lift _) (.cons (VIs.lift _) (.cons (VIs.lift _) (.cons (VIs.lift _) (.cons (VIs.lift _) (.cons (VIs.lift _) (.cons (VIs.lift _) (.cons (VIs.lift _) (.cons (VIs.lift _) (.cons (VIs.lift _) (.cons (VIs.lift _) (.cons (VIs.lift _) (.cons (VIs.lift _) (.cons (VIs.lift _) (.cons (VIs.lift _) (.cons (VIs.lift _) (.cons (VIs.lift _) (.cons (VIs.lift _) .nil)))))))))))))))))))))))) (steps_all (steps_cons ?_ (steps_cons ?_ (steps_cons ?_ (steps_cons ?_ (steps_cons ?_ (steps_cons ?_ (steps_cons ?_ (steps_cons ?_ (steps_cons ?_ (steps_cons ?_ (steps_cons ?_ (steps_cons ?_ (steps_cons ?_ (steps_cons ?_ (steps_cons ?_ (steps_cons ?_ (steps_cons ?_ (steps_cons ?_ (steps_cons ?_ (steps_cons ?_ (steps_cons ?_ (steps_cons ?_ (steps_cons ?_ steps_zero)))))))))))))))))))))))) ?fin
 · intro a0 w9 K9 hF hB hK hC
   have b1 := hF.base (k := 1) (by kernel_rfl) rfl
   clear hF hB hK
   go_simp
   exact hC _ _ (bR _) fun _ _ => rfl
 · intro a0 w9 K9 hF hB hK hC
   have e11 := depV hK 0 rfl rfl rfl rfl
   clear hF hB hK
   go_simp
   exact hC _ _ (bR _) fun _ _ => rfl
 · intro a0 w9 K9 hF hB hK hC
   have e12 := depV hK 0 rfl rfl rfl rfl
   have x9 := (CX.out.below hB CX.out.lt).c3
   clear hF hB hK
   go_simp
   exact hC _ _ (bR _) fun _ _ => rfl
 · intro a0 w9 K9 hF hB hK hC
   have b1 := hF.base (k := 1) (by kernel_rfl) rfl
   clear hF hB hK
   go_simp
   exact hC _ _ (bR _) fun _ _ => rfl
 · intro a0 w9 K9 hF hB hK hC
   have e14 := depV hK 0 rfl rfl rfl rfl
   clear hF hB hK
   go_simp
   exact hC _ _ (bR _) fun _ _ => rfl
 · intro a0 w9 K9 hF hB hK hC
   have e15 := depV hK 0 rfl rfl rfl rfl
   have x9 := (CX.out.below hB CX.out.lt).c4
   clear hF hB hK
   go_simp
   exact hC _ _ (bR _) fun _ _ => rfl
 · intro a0 w9 K9 hF hB hK hC
   have b1 := hF.base (k := 1) (by kernel_rfl) rfl
   clear hF hB hK
   go_simp
   exact hC _ _ (bR _) fun _ _ => rfl
 · intro a0 w9 K9 hF hB hK hC
   have e17 := depV hK 0 rfl rfl rfl rfl
   clear hF hB hK
   go_simp
   exact hC _ _ (bR _) fun _ _ => rfl
 · intro a0 w9 K9 hF hB hK hC
   have e18 := depV hK 0 rfl rfl rfl rfl
   have x9 := (CX.out.below hB CX.out.lt).c4
   clear hF hB hK
   go_simp
   exact hC _ _ (bR _) fun _ _ => rfl
 · intro a0 w9 K9 hF hB hK hC
   have e19 := depV hK 0 rfl rfl rfl rfl
   have HB9 := Lib.hid hB
   clear hF hB hK
   go_simp
   exact hC _ _ (bR _) fun _ _ => rfl
 · intro a0 w9 K9 hF hB hK hC
   have e20 := depV hK 0 rfl rfl rfl rfl
   have HB9 := Lib.hid hB
   clear hF hB hK
   go_simp
   exact hC _ _ (bR _) fun _ _ => rfl
 · intro a0 w9 K9 hF hB hK hC
   have e16 := depV hK 0 rfl rfl rfl rfl
   have e21 := depV hK 1 rfl rfl rfl rfl
   have HB9 := Lib.hid hB
   clear hF hB hK
   go_simp
   exact hC _ _ (bR _) fun _ _ => rfl
 · intro a0 w9 K9 hF hB hK hC
   have b1 := hF.base (k := 1) (by kernel_rfl) rfl
   clear hF hB hK
   go_simp
   exact hC _ _ (bR _) fun _ _ => rfl
 · intro a0 w9 K9 hF hB hK hC
   have e23 := depV hK 0 rfl rfl rfl rfl
   clear hF hB hK
   go_simp
   exact hC _ _ (bR _) fun _ _ => rfl
 · intro a0 w9 K9 hF hB hK hC
   have e24 := depV hK 0 rfl rfl rfl rfl
   have x9 := (CX.out.below hB CX.out.lt).c5
   clear hF hB hK
   go_simp
   exact hC _ _ (bR _) fun _ _ => rfl
 · intro a0 w9 K9 hF hB hK hC
   have b1 := hF.base (k := 1) (by kernel_rfl) rfl
   clear hF hB hK
   go_simp
   exact hC _ _ (bR _) fun _ _ => rfl
 · intro a0 w9 K9 hF hB hK hC
   have e26 := depV hK 0 rfl rfl rfl rfl
   clear hF hB hK
   go_simp
   exact hC _ _ (bR _) fun _ _ => rfl
 · intro a0 w9 K9 hF hB hK hC
   have e27 := depV hK 0 rfl rfl rfl rfl
   have x9 := (CX.out.below hB CX.out.lt).c5
   clear hF hB hK
   go_simp
   exact hC _ _ (bR _) fun _ _ => rfl
 · intro a0 w9 K9 hF hB hK hC
   have e28 := depV hK 0 rfl rfl rfl rfl
   have HB9 := Lib.hid hB
   clear hF hB hK
   go_simp
   exact hC _ _ (bR _) fun _ _ => rfl
 · intro a0 w9 K9 hF hB hK hC
   have e29 := depV hK 0 rfl rfl rfl rfl
   have HB9 := Lib.hid hB
   clear hF hB hK
   go_simp
   exact hC _ _ (bR _) fun _ _ => rfl
 · intro a0 w9 K9 hF hB hK hC
   have e25 := depV hK 0 rfl rfl rfl rfl
   have e30 := depV hK 1 rfl rfl rfl rfl
   have HB9 := Lib.hid hB
   clear hF hB hK
   go_simp
   exact hC _ _ (bR _) fun _ _ => rfl
 · intro a0 w9 K9 hF hB hK hC
   have e13 := depV hK 0 rfl rfl rfl rfl
   have e22 := depV hK 1 rfl rfl rfl rfl
   have e31 := depV hK 2 rfl rfl rfl rfl
   have HB9 := Lib.hid hB
   clear hF hB hK
   go_simp
   exact hC _ _ (bR _) fun _ _ => rfl
 · intro a0 w9 K9 hF hB hK hC
   have b1 := hF.base (k := 1) (by kernel_rfl) rfl
   clear hF hB hK
   go_simp
   exact hC _ _ (bR _) fun _ _ => rfl
 case fin =>
  intro a0 w9 hF hB hK
  have b1 := hF.base (k := 1) (by kernel_rfl) rfl
  have b2 := hF.base (k := 2) (by kernel_rfl) rfl
  have hsz := hF.size
  have hdf := hF.defers
  clear hF
  obtain ⟨v32, e32, z32⟩ := known hK 21 (k := 32) (by decide) rfl
  have z32 : v32 = .agg #[.bool g, .slice A n c, .slice B m d] := z32
  subst z32
  obtain ⟨v33, e33, z33⟩ := known hK 22 (k := 33) (by decide) rfl
  have z33 : v33 = .pointer (some ⟨w.heap.size, 3, none⟩) := z33
  subst z33
  clear hK
  obtain ⟨⟨l0⟩, df⟩ := a0
  have hs0 : l0.length = 35 := hsz
  clear hsz
  replace hdf : df = _ := hdf
  subst hdf
  obtain ⟨u, rfl⟩ := lits_35 hs0
  clear hs0
  generalize hAr : (Array.mk [u 0, u 1, u 2, u 3, u 4, u 5, u 6, u 7, u 8, u 9, u 10, u 11, u 12, u 13, u 14, u 15, u 16, u 17, u 18, u 19, u 20, u 21, u 22, u 23, u 24, u 25, u 26, u 27, u 28, u 29, u 30, u 31, u 32, u 33, u 34] : Array Value) = ar
  obtain rfl : ar = #[u 0, u 1, u 2, u 3, u 4, u 5, u 6, u 7, u 8, u 9, u 10, u 11, u 12, u 13, u 14, u 15, u 16, u 17, u 18, u 19, u 20, u 21, u 22, u 23, u 24, u 25, u 26, u 27, u 28, u 29, u 30, u 31, u 32, u 33, u 34] := hAr.symm
  have q1 : u 1 = _ := Option.some.inj b1
  clear b1
  have q2 : u 2 = _ := Option.some.inj b2
  clear b2
  have q32 : u 32 = _ := Option.some.inj e32
  clear e32
  have q33 : u 33 = _ := Option.some.inj e33
  clear e33
  rw [q1, q2, q32, q33]
  clear q1 q2 q32 q33
  have hbl := hB; clear hB
  replace CX := hmB CX hbl
  replace RES := hmB RES hbl
  replace HW := hmW HW hbl; clear hbl
  clear CX0 CX1 CX2 CX3 CX4 CX5
  obtain ⟨CX0, CX1, CX2, CX3, CX4, CX5⟩ := CX.out.cs6
  simp only [List.drop_succ_cons, List.drop_zero]
  obtain ⟨y0, y1, y2, y3, y4, y5⟩ := CX.out.fz6
  go_upto_region 3 with fail
  clear y0 y1 y2 y3 y4 y5
  obtain ⟨wl, hwl⟩ : ∃ wl, wl = (((w9.setCell ⟨w.heap.size, 3, none⟩ (.bool g)).setCell ⟨w.heap.size, 4, none⟩ (.slice A n c)).setCell ⟨w.heap.size, 5, none⟩ (.slice B m d)) := ⟨_, rfl⟩
  rw [← hwl]
  replace CX := Lib.hid (show Blk wl (w.heap.size) 27 #[.int .i64 k, .bool b, .string s1, .bool g, .slice A n c, .slice B m d] by rw [hwl]; exact (((CX.out).put 3 (.bool g)).put 4 (.slice A n c)).put 5 (.slice B m d))
  replace RES := Lib.hid (show Blk wl (w.heap.size + 1) 27 #[.int .i64 0, .bool false, .string ⟨#[]⟩, .bool false, .slice none 0 0, .slice none 0 0] by rw [hwl]; exact (((RES.out).far (p := ⟨w.heap.size, 3, none⟩) (by simp) _).far (p := ⟨w.heap.size, 4, none⟩) (by simp) _).far (p := ⟨w.heap.size, 5, none⟩) (by simp) _)
  replace HW := Lib.hid (show Below w.heap.size w wl by rw [hwl]; exact bel_set (p := ⟨w.heap.size, 5, none⟩) (bel_set (p := ⟨w.heap.size, 4, none⟩) (bel_set (p := ⟨w.heap.size, 3, none⟩) (HW.out) (by show w.heap.size ≤ w.heap.size; omega) _) (by show w.heap.size ≤ w.heap.size; omega) _) (by show w.heap.size ≤ w.heap.size; omega) _)
  clear hwl
  clear CX0 CX1 CX2 CX3 CX4 CX5
  obtain ⟨CX0, CX1, CX2, CX3, CX4, CX5⟩ := CX.out.cs6
  obtain ⟨d0, d1, d2, d3, d4, d5⟩ := RES.out.cs6
  obtain ⟨f0, f1, f2, f3, f4, f5⟩ := RES.out.fz6
  go_wp2
  exact bodyPost_ret (results_cell_row rfl _ _ (w.heap.size + 1) 27 _ (0, 0) _ rfl (RES.out.put6 _ _ _ _ _ _) Tryz.underlying27 rfl (by kernel_rfl)) rfl ⟨by rw [HN.out.1, HN.out.2.1, ← HSS.out, ← HS.out.1, HS.out.2.1], (bel_set6 (g := w.heap.size + 1) HW.out (by omega) _ _ _ _ _ _)⟩
end
end Go.Proofs.YtmbbdjpnecjleaaGreat
