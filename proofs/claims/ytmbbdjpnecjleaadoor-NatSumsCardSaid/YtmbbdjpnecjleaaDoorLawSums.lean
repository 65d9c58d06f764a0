/-
  The law NatSums, walked.
-/
import Derived.Test.YtmbbdjpnecjleaaDoorNLaw
namespace Go.Proofs.YtmbbdjpnecjleaaDoor
open Go.RowKit

set_option maxRecDepth 100000 in
set_option maxHeartbeats 1000000 in
theorem sums_wrong (A A' : Option Addr) (cap cap' : Nat) (x0 y0 : List Nat) (w : World) (h : RdL w A x0) (h' : RdL w A' y0) (hc : x0.length ≤ cap) (hc' : y0.length ≤ cap') (ht : Bases w) (hx : Lim x0) (hy : Lim y0) (hr : (rightL (few x0) && rightL (few y0)) = false) :
    Calls Tryd.prog 6 #[.slice A x0.length cap, .slice A' y0.length cap'] w (RetT w) := by
  have RA := Lib.hid (show RdL w A (few x0) from h.take 18); clear h
  have RB := Lib.hid (show RdL w A' (few y0) from h'.take 18); clear h'
  have HX := Lib.hid (few_lim hx); clear hx
  have HY := Lib.hid (few_lim hy); clear hy
  have T := Lib.hid ht; clear ht
  have l1 := few_le x0
  have l2 := few_le y0
  obtain ⟨xs, hxs⟩ : ∃ xs, few x0 = xs := ⟨_, rfl⟩
  obtain ⟨ys, hys⟩ : ∃ ys, few y0 = ys := ⟨_, rfl⟩
  rw [hxs] at RA HX l1 hr
  rw [hys] at RB HY l2 hr
  have F1 := Lib.hid (And.intro hc hxs); clear hc hxs
  have F2 := Lib.hid (And.intro hc' hys); clear hc' hys
  have HR := Lib.hid hr; clear hr
  have HW := Lib.hid (bel_refl w)
  go_enter Tryd.func6, Tryd.ntmps6
  go_wp2_with fail
  refine (few_is A cap x0 xs _ F1.out.1 F1.out.2).mono ?_
  rintro e w1 ⟨rfl, hbl⟩
  replace RA := Lib.hid (RA.out.below hbl)
  replace RB := Lib.hid (RB.out.below hbl)
  replace T := Lib.hid (T.out.below hbl)
  replace HW := Lib.hid (bel_trans HW.out hbl); clear hbl
  go_wp2_with fail
  refine (few_is A' cap' y0 ys _ F2.out.1 F2.out.2).mono ?_
  rintro e w2 ⟨rfl, hbl⟩
  replace RA := Lib.hid (RA.out.below hbl)
  replace RB := Lib.hid (RB.out.below hbl)
  replace T := Lib.hid (T.out.below hbl)
  replace HW := Lib.hid (bel_trans HW.out hbl); clear hbl
  go_wp2_with fail
  refine (cmp_wrong A A' cap cap' xs ys _ RA.out RB.out HX.out HY.out l1 l2 HR.out).mono ?_
  rintro e w3 ⟨rfl, hbl⟩
  replace RA := Lib.hid (RA.out.below hbl)
  replace RB := Lib.hid (RB.out.below hbl)
  replace T := Lib.hid (T.out.below hbl)
  replace HW := Lib.hid (bel_trans HW.out hbl); clear hbl
  go_wp2_with fail
  refine (add_wrong A A' cap cap' xs ys _ RA.out RB.out (by omega) (by omega) HR.out).mono ?_
  rintro e w4 ⟨v4, rfl, hn4, hbl⟩
  replace RA := Lib.hid (RA.out.below hbl)
  replace RB := Lib.hid (RB.out.below hbl)
  replace T := Lib.hid (T.out.below hbl)
  replace HW := Lib.hid (bel_trans HW.out hbl); clear hbl
  have HN4 := Lib.hid hn4; clear hn4
  obtain ⟨A4, c4, rfl, hc4, hr4⟩ := HN4.out.row
  have R4 := Lib.hid hr4; clear hr4 hc4
  rw [limbs0]
  go_wp2_with fail
  refine (sub_wrong A A' cap cap' xs ys _ RA.out RB.out (by omega) (by omega) HR.out).mono ?_
  rintro e w5 ⟨v5, rfl, hn5, hbl⟩
  replace RA := Lib.hid (RA.out.below hbl)
  replace RB := Lib.hid (RB.out.below hbl)
  replace T := Lib.hid (T.out.below hbl)
  replace R4 := Lib.hid (R4.out.below hbl)
  replace HN4 := Lib.hid (HN4.out.below hbl)
  replace HW := Lib.hid (bel_trans HW.out hbl); clear hbl
  have HN5 := Lib.hid hn5; clear hn5
  obtain ⟨A5, c5, rfl, hc5, hr5⟩ := HN5.out.row
  have R5 := Lib.hid hr5; clear hr5 hc5
  rw [limbs0]
  go_wp2_with fail
  refine (mul_wrong A A' cap cap' xs ys _ RA.out RB.out (by omega) (by omega) HR.out).mono ?_
  rintro e w6 ⟨v6, rfl, hn6, hbl⟩
  replace RA := Lib.hid (RA.out.below hbl)
  replace RB := Lib.hid (RB.out.below hbl)
  replace T := Lib.hid (T.out.below hbl)
  replace R4 := Lib.hid (R4.out.below hbl)
  replace HN4 := Lib.hid (HN4.out.below hbl)
  replace R5 := Lib.hid (R5.out.below hbl)
  replace HN5 := Lib.hid (HN5.out.below hbl)
  replace HW := Lib.hid (bel_trans HW.out hbl); clear hbl
  have HN6 := Lib.hid hn6; clear hn6
  obtain ⟨A6, c6, rfl, hc6, hr6⟩ := HN6.out.row
  have R6 := Lib.hid hr6; clear hr6 hc6
  rw [limbs0]
  go_wp2_with fail
  refine (right_bb A cap xs _ RA.out l1).mono ?_
  rintro e w7 ⟨rfl, hbl⟩
  replace RA := Lib.hid (RA.out.below hbl)
  replace RB := Lib.hid (RB.out.below hbl)
  replace T := Lib.hid (T.out.below hbl)
  replace R4 := Lib.hid (R4.out.below hbl)
  replace HN4 := Lib.hid (HN4.out.below hbl)
  replace R5 := Lib.hid (R5.out.below hbl)
  replace HN5 := Lib.hid (HN5.out.below hbl)
  replace R6 := Lib.hid (R6.out.below hbl)
  replace HN6 := Lib.hid (HN6.out.below hbl)
  replace HW := Lib.hid (bel_trans HW.out hbl); clear hbl
  go_wp2_with fail
  refine (refRight_bb A cap xs _ RA.out l1).mono ?_
  rintro e w8 ⟨rfl, hbl⟩
  replace RA := Lib.hid (RA.out.below hbl)
  replace RB := Lib.hid (RB.out.below hbl)
  replace T := Lib.hid (T.out.below hbl)
  replace R4 := Lib.hid (R4.out.below hbl)
  replace HN4 := Lib.hid (HN4.out.below hbl)
  replace R5 := Lib.hid (R5.out.below hbl)
  replace HN5 := Lib.hid (HN5.out.below hbl)
  replace R6 := Lib.hid (R6.out.below hbl)
  replace HN6 := Lib.hid (HN6.out.below hbl)
  replace HW := Lib.hid (bel_trans HW.out hbl); clear hbl
  have hself : (rightL xs != rightL xs) = false := by simp
  rcases div_neg HR.out with hr | ⟨hr, hry⟩
  · rw [hr]
    go_wp2_with fail
    refine (alive_any _ T.out).mono ?_
    rintro e w9 ⟨rfl, hbl⟩
    replace RA := Lib.hid (RA.out.below hbl)
    replace RB := Lib.hid (RB.out.below hbl)
    replace T := Lib.hid (T.out.below hbl)
    replace R4 := Lib.hid (R4.out.below hbl)
    replace HN4 := Lib.hid (HN4.out.below hbl)
    replace R5 := Lib.hid (R5.out.below hbl)
    replace HN5 := Lib.hid (HN5.out.below hbl)
    replace R6 := Lib.hid (R6.out.below hbl)
    replace HN6 := Lib.hid (HN6.out.below hbl)
    replace HW := Lib.hid (bel_trans HW.out hbl); clear hbl
    go_wp2_with fail
    refine (refRight_bb A cap xs _ RA.out l1).mono ?_
    rintro e w10 ⟨rfl, hbl⟩
    replace RA := Lib.hid (RA.out.below hbl)
    replace RB := Lib.hid (RB.out.below hbl)
    replace T := Lib.hid (T.out.below hbl)
    replace R4 := Lib.hid (R4.out.below hbl)
    replace HN4 := Lib.hid (HN4.out.below hbl)
    replace R5 := Lib.hid (R5.out.below hbl)
    replace HN5 := Lib.hid (HN5.out.below hbl)
    replace R6 := Lib.hid (R6.out.below hbl)
    replace HN6 := Lib.hid (HN6.out.below hbl)
    replace HW := Lib.hid (bel_trans HW.out hbl); clear hbl
    rw [hr]
    go_wp2
    go_ret
    exact ⟨rfl, HW.out⟩
  · rw [hr]
    go_wp2_with fail
    refine (alive_any _ T.out).mono ?_
    rintro e w9 ⟨rfl, hbl⟩
    replace RA := Lib.hid (RA.out.below hbl)
    replace RB := Lib.hid (RB.out.below hbl)
    replace T := Lib.hid (T.out.below hbl)
    replace R4 := Lib.hid (R4.out.below hbl)
    replace HN4 := Lib.hid (HN4.out.below hbl)
    replace R5 := Lib.hid (R5.out.below hbl)
    replace HN5 := Lib.hid (HN5.out.below hbl)
    replace R6 := Lib.hid (R6.out.below hbl)
    replace HN6 := Lib.hid (HN6.out.below hbl)
    replace HW := Lib.hid (bel_trans HW.out hbl); clear hbl
    go_wp2_with fail
    refine (refRight_bb A cap xs _ RA.out l1).mono ?_
    rintro e w10 ⟨rfl, hbl⟩
    replace RA := Lib.hid (RA.out.below hbl)
    replace RB := Lib.hid (RB.out.below hbl)
    replace T := Lib.hid (T.out.below hbl)
    replace R4 := Lib.hid (R4.out.below hbl)
    replace HN4 := Lib.hid (HN4.out.below hbl)
    replace R5 := Lib.hid (R5.out.below hbl)
    replace HN5 := Lib.hid (HN5.out.below hbl)
    replace R6 := Lib.hid (R6.out.below hbl)
    replace HN6 := Lib.hid (HN6.out.below hbl)
    replace HW := Lib.hid (bel_trans HW.out hbl); clear hbl
    rw [hr]
    go_wp2_with fail
    refine (refRight_bb A' cap' ys _ RB.out l2).mono ?_
    rintro e w11 ⟨rfl, hbl⟩
    replace RA := Lib.hid (RA.out.below hbl)
    replace RB := Lib.hid (RB.out.below hbl)
    replace T := Lib.hid (T.out.below hbl)
    replace R4 := Lib.hid (R4.out.below hbl)
    replace HN4 := Lib.hid (HN4.out.below hbl)
    replace R5 := Lib.hid (R5.out.below hbl)
    replace HN5 := Lib.hid (HN5.out.below hbl)
    replace R6 := Lib.hid (R6.out.below hbl)
    replace HN6 := Lib.hid (HN6.out.below hbl)
    replace HW := Lib.hid (bel_trans HW.out hbl); clear hbl
    rw [hry]
    go_wp2
    go_ret
    exact ⟨rfl, HW.out⟩

set_option maxRecDepth 100000 in
set_option maxHeartbeats 1000000 in
theorem sums_right (A A' : Option Addr) (cap cap' : Nat) (x0 y0 : List Nat) (a b : Nat) (w : World) (h : RdL w A x0) (h' : RdL w A' y0) (hc : x0.length ≤ cap) (hc' : y0.length ≤ cap') (ht : Bases w) (ha : few x0 = limbs a) (hb : few y0 = limbs b) (ha2 : a < Top) (hb2 : b < Top) :
    Calls Tryd.prog 6 #[.slice A x0.length cap, .slice A' y0.length cap'] w (RetT w) := by
  have RA := Lib.hid (show RdL w A (few x0) from h.take 18); clear h
  have RB := Lib.hid (show RdL w A' (few y0) from h'.take 18); clear h'
  have T := Lib.hid ht; clear ht
  rw [ha] at RA
  rw [hb] at RB
  have F1 := Lib.hid (And.intro hc ha); clear hc ha
  have F2 := Lib.hid (And.intro hc' hb); clear hc' hb
  have LA := Lib.hid ha2; clear ha2
  have LB := Lib.hid hb2; clear hb2
  have HW := Lib.hid (bel_refl w)
  go_enter Tryd.func6, Tryd.ntmps6
  go_wp2_with fail
  refine (few_is A cap x0 (limbs a) _ F1.out.1 F1.out.2).mono ?_
  rintro e w1 ⟨rfl, hbl⟩
  replace RA := Lib.hid (RA.out.below hbl)
  replace RB := Lib.hid (RB.out.below hbl)
  replace T := Lib.hid (T.out.below hbl)
  replace HW := Lib.hid (bel_trans HW.out hbl); clear hbl
  go_wp2_with fail
  refine (few_is A' cap' y0 (limbs b) _ F2.out.1 F2.out.2).mono ?_
  rintro e w2 ⟨rfl, hbl⟩
  replace RA := Lib.hid (RA.out.below hbl)
  replace RB := Lib.hid (RB.out.below hbl)
  replace T := Lib.hid (T.out.below hbl)
  replace HW := Lib.hid (bel_trans HW.out hbl); clear hbl
  go_wp2_with fail
  refine (cmp_num A A' cap cap' a b _ RA.out RB.out LA.out LB.out).mono ?_
  rintro e w3 ⟨rfl, hbl⟩
  replace RA := Lib.hid (RA.out.below hbl)
  replace RB := Lib.hid (RB.out.below hbl)
  replace T := Lib.hid (T.out.below hbl)
  replace HW := Lib.hid (bel_trans HW.out hbl); clear hbl
  go_wp2_with fail
  refine (add_num A A' cap cap' a b _ RA.out RB.out LA.out LB.out).mono ?_
  rintro e w4 ⟨v4, rfl, hn4, hbl⟩
  replace RA := Lib.hid (RA.out.below hbl)
  replace RB := Lib.hid (RB.out.below hbl)
  replace T := Lib.hid (T.out.below hbl)
  replace HW := Lib.hid (bel_trans HW.out hbl); clear hbl
  have HN4 := Lib.hid hn4; clear hn4
  go_wp2_with fail
  refine (sub_num A A' cap cap' a b _ RA.out RB.out LA.out LB.out).mono ?_
  rintro e w5 ⟨v5, rfl, hn5, hbl⟩
  replace RA := Lib.hid (RA.out.below hbl)
  replace RB := Lib.hid (RB.out.below hbl)
  replace T := Lib.hid (T.out.below hbl)
  replace HN4 := Lib.hid (HN4.out.below hbl)
  replace HW := Lib.hid (bel_trans HW.out hbl); clear hbl
  have HN5 := Lib.hid hn5; clear hn5
  go_wp2_with fail
  refine (mul_num A A' cap cap' a b _ RA.out RB.out LA.out LB.out).mono ?_
  rintro e w6 ⟨v6, rfl, hn6, hbl⟩
  replace RA := Lib.hid (RA.out.below hbl)
  replace RB := Lib.hid (RB.out.below hbl)
  replace T := Lib.hid (T.out.below hbl)
  replace HN4 := Lib.hid (HN4.out.below hbl)
  replace HN5 := Lib.hid (HN5.out.below hbl)
  replace HW := Lib.hid (bel_trans HW.out hbl); clear hbl
  have HN6 := Lib.hid hn6; clear hn6
  go_wp2_with fail
  refine (rightR LA.out A cap _ RA.out).mono ?_
  rintro e w7 ⟨rfl, hbl⟩
  replace RA := Lib.hid (RA.out.below hbl)
  replace RB := Lib.hid (RB.out.below hbl)
  replace T := Lib.hid (T.out.below hbl)
  replace HN4 := Lib.hid (HN4.out.below hbl)
  replace HN5 := Lib.hid (HN5.out.below hbl)
  replace HN6 := Lib.hid (HN6.out.below hbl)
  replace HW := Lib.hid (bel_trans HW.out hbl); clear hbl
  go_wp2_with fail
  refine (refRightR LA.out A cap _ RA.out).mono ?_
  rintro e w8 ⟨rfl, hbl⟩
  replace RA := Lib.hid (RA.out.below hbl)
  replace RB := Lib.hid (RB.out.below hbl)
  replace T := Lib.hid (T.out.below hbl)
  replace HN4 := Lib.hid (HN4.out.below hbl)
  replace HN5 := Lib.hid (HN5.out.below hbl)
  replace HN6 := Lib.hid (HN6.out.below hbl)
  replace HW := Lib.hid (bel_trans HW.out hbl); clear hbl
  go_wp2_with fail
  refine (alive_any _ T.out).mono ?_
  rintro e w9 ⟨rfl, hbl⟩
  replace RA := Lib.hid (RA.out.below hbl)
  replace RB := Lib.hid (RB.out.below hbl)
  replace T := Lib.hid (T.out.below hbl)
  replace HN4 := Lib.hid (HN4.out.below hbl)
  replace HN5 := Lib.hid (HN5.out.below hbl)
  replace HN6 := Lib.hid (HN6.out.below hbl)
  replace HW := Lib.hid (bel_trans HW.out hbl); clear hbl
  go_wp2_with fail
  refine (refRightR LA.out A cap _ RA.out).mono ?_
  rintro e w10 ⟨rfl, hbl⟩
  replace RA := Lib.hid (RA.out.below hbl)
  replace RB := Lib.hid (RB.out.below hbl)
  replace T := Lib.hid (T.out.below hbl)
  replace HN4 := Lib.hid (HN4.out.below hbl)
  replace HN5 := Lib.hid (HN5.out.below hbl)
  replace HN6 := Lib.hid (HN6.out.below hbl)
  replace HW := Lib.hid (bel_trans HW.out hbl); clear hbl
  go_wp2_with fail
  refine (refRightR LB.out A' cap' _ RB.out).mono ?_
  rintro e w11 ⟨rfl, hbl⟩
  replace RA := Lib.hid (RA.out.below hbl)
  replace RB := Lib.hid (RB.out.below hbl)
  replace T := Lib.hid (T.out.below hbl)
  replace HN4 := Lib.hid (HN4.out.below hbl)
  replace HN5 := Lib.hid (HN5.out.below hbl)
  replace HN6 := Lib.hid (HN6.out.below hbl)
  replace HW := Lib.hid (bel_trans HW.out hbl); clear hbl
  go_wp2_with fail
  refine (text_num A cap a _ RA.out LA.out).mono ?_
  rintro e w12 ⟨rfl, hbl⟩
  replace RA := Lib.hid (RA.out.below hbl)
  replace RB := Lib.hid (RB.out.below hbl)
  replace T := Lib.hid (T.out.below hbl)
  replace HN4 := Lib.hid (HN4.out.below hbl)
  replace HN5 := Lib.hid (HN5.out.below hbl)
  replace HN6 := Lib.hid (HN6.out.below hbl)
  replace HW := Lib.hid (bel_trans HW.out hbl); clear hbl
  go_wp2_with fail
  refine (text_num A' cap' b _ RB.out LB.out).mono ?_
  rintro e w13 ⟨rfl, hbl⟩
  replace RA := Lib.hid (RA.out.below hbl)
  replace RB := Lib.hid (RB.out.below hbl)
  replace T := Lib.hid (T.out.below hbl)
  replace HN4 := Lib.hid (HN4.out.below hbl)
  replace HN5 := Lib.hid (HN5.out.below hbl)
  replace HN6 := Lib.hid (HN6.out.below hbl)
  replace HW := Lib.hid (bel_trans HW.out hbl); clear hbl
  have DL := Lib.hid (And.intro (decL_top LA.out) (decL_top LB.out))
  have hself : (cmpI (a : Int) (b : Int) != cmpI (a : Int) (b : Int)) = false := by simp
  go_wp2_with fail
  refine (refCmp_bb a b _).mono ?_
  rintro e w14 ⟨rfl, hbl⟩
  replace RA := Lib.hid (RA.out.below hbl)
  replace RB := Lib.hid (RB.out.below hbl)
  replace T := Lib.hid (T.out.below hbl)
  replace HN4 := Lib.hid (HN4.out.below hbl)
  replace HN5 := Lib.hid (HN5.out.below hbl)
  replace HN6 := Lib.hid (HN6.out.below hbl)
  replace HW := Lib.hid (bel_trans HW.out hbl); clear hbl
  go_wp2_with fail
  refine (refAdd_any a b _ (by have := DL.out.1; omega) (by have := DL.out.2; omega)).mono ?_
  rintro e w15 ⟨rfl, hbl⟩
  replace RA := Lib.hid (RA.out.below hbl)
  replace RB := Lib.hid (RB.out.below hbl)
  replace T := Lib.hid (T.out.below hbl)
  replace HN4 := Lib.hid (HN4.out.below hbl)
  replace HN5 := Lib.hid (HN5.out.below hbl)
  replace HN6 := Lib.hid (HN6.out.below hbl)
  replace HW := Lib.hid (bel_trans HW.out hbl); clear hbl
  go_wp2_with fail
  refine (is_any v4 (a + b) _ _ HN4.out rfl).mono ?_
  rintro e w16 ⟨rfl, hbl⟩
  replace RA := Lib.hid (RA.out.below hbl)
  replace RB := Lib.hid (RB.out.below hbl)
  replace T := Lib.hid (T.out.below hbl)
  replace HN4 := Lib.hid (HN4.out.below hbl)
  replace HN5 := Lib.hid (HN5.out.below hbl)
  replace HN6 := Lib.hid (HN6.out.below hbl)
  replace HW := Lib.hid (bel_trans HW.out hbl); clear hbl
  go_wp2_with fail
  refine (refMul_any a b _ (by have := DL.out.1; omega) (by have := DL.out.2; omega)).mono ?_
  rintro e w17 ⟨rfl, hbl⟩
  replace RA := Lib.hid (RA.out.below hbl)
  replace RB := Lib.hid (RB.out.below hbl)
  replace T := Lib.hid (T.out.below hbl)
  replace HN4 := Lib.hid (HN4.out.below hbl)
  replace HN5 := Lib.hid (HN5.out.below hbl)
  replace HN6 := Lib.hid (HN6.out.below hbl)
  replace HW := Lib.hid (bel_trans HW.out hbl); clear hbl
  go_wp2_with fail
  refine (is_any v6 (a * b) _ _ HN6.out rfl).mono ?_
  rintro e w18 ⟨rfl, hbl⟩
  replace RA := Lib.hid (RA.out.below hbl)
  replace RB := Lib.hid (RB.out.below hbl)
  replace T := Lib.hid (T.out.below hbl)
  replace HN4 := Lib.hid (HN4.out.below hbl)
  replace HN5 := Lib.hid (HN5.out.below hbl)
  replace HN6 := Lib.hid (HN6.out.below hbl)
  replace HW := Lib.hid (bel_trans HW.out hbl); clear hbl
  by_cases hlt : a < b
  · have e1 : cmpI (a : Int) (b : Int) = -1 := cmpI_lt (by omega)
    have e2 : subC a b = 3 := if_pos hlt
    have e3 : a - b = 0 := by omega
    have hn := HN5.out
    rw [e3] at hn
    obtain ⟨A5, c5, rfl, _, _⟩ := hn.row
    rw [e1, e2, limbs0]
    clear hn hself
    go_wp2
    go_ret
    exact ⟨rfl, HW.out⟩
  · have e1 : ¬ cmpI (a : Int) (b : Int) < 0 := by have := cmp_ge (a := a) (b := b) (by omega); omega
    have e2 : subC a b = 0 := if_neg hlt
    have E3 := Lib.hid (fit_small (n := a - b) (Nat.lt_of_le_of_lt (Nat.sub_le _ _) LA.out))
    rw [e2]
    have HLT := Lib.hid (Nat.le_of_not_lt hlt); clear hlt
    go_wp2_with fail
    refine (refSub_any a b _ (by have := DL.out.1; omega) (by have := DL.out.2; omega) HLT.out).mono ?_
    rintro e w19 ⟨rfl, hbl⟩
    replace RA := Lib.hid (RA.out.below hbl)
    replace RB := Lib.hid (RB.out.below hbl)
    replace T := Lib.hid (T.out.below hbl)
    replace HN4 := Lib.hid (HN4.out.below hbl)
    replace HN5 := Lib.hid (HN5.out.below hbl)
    replace HN6 := Lib.hid (HN6.out.below hbl)
    replace HW := Lib.hid (bel_trans HW.out hbl); clear hbl
    go_wp2_with fail
    refine (is_any v5 (a - b) 0 _ (by rw [E3.out.1]; exact HN5.out) E3.out.2.symm).mono ?_
    rintro e w20 ⟨rfl, hbl⟩
    replace RA := Lib.hid (RA.out.below hbl)
    replace RB := Lib.hid (RB.out.below hbl)
    replace T := Lib.hid (T.out.below hbl)
    replace HN4 := Lib.hid (HN4.out.below hbl)
    replace HN5 := Lib.hid (HN5.out.below hbl)
    replace HN6 := Lib.hid (HN6.out.below hbl)
    replace HW := Lib.hid (bel_trans HW.out hbl); clear hbl
    go_wp2
    go_ret
    exact ⟨rfl, HW.out⟩

theorem law_sums (A A' : Option Addr) (cap cap' : Nat) (x0 y0 : List Nat) (w : World) (h : RdL w A x0) (h' : RdL w A' y0) (hc : x0.length ≤ cap) (hc' : y0.length ≤ cap') (ht : Bases w) (hx : Lim x0) (hy : Lim y0) :
    Calls Tryd.prog 6 #[.slice A x0.length cap, .slice A' y0.length cap'] w (RetT w) := by
  cases hr : (rightL (few x0) && rightL (few y0))
  · exact sums_wrong A A' cap cap' x0 y0 w h h' hc hc' ht hx hy hr
  · rw [Bool.and_eq_true] at hr
    obtain ⟨a, ha, ha2⟩ := right_num (few_lim hx) hr.1
    obtain ⟨b, hb, hb2⟩ := right_num (few_lim hy) hr.2
    exact sums_right A A' cap cap' x0 y0 a b w h h' hc hc' ht ha hb ha2 hb2
end Go.Proofs.YtmbbdjpnecjleaaDoor
