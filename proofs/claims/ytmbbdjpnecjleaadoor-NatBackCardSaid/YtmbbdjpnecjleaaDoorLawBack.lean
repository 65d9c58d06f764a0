/-
  The law NatBack, walked.
-/
import Derived.Test.YtmbbdjpnecjleaaDoorNLaw2
namespace Go.Proofs.YtmbbdjpnecjleaaDoor
open Go.RowKit

set_option maxRecDepth 100000 in
set_option maxHeartbeats 1000000 in
theorem back_wrong (A A' : Option Addr) (cap cap' : Nat) (x0 y0 : List Nat) (w : World) (h : RdL w A x0) (h' : RdL w A' y0) (hc : x0.length ≤ cap) (hc' : y0.length ≤ cap') (ht : Bases w) (hx : Lim x0) (hy : Lim y0) (hr : (rightL (few x0) && rightL (few y0)) = false) :
    Calls Tryd.prog 5 #[.slice A x0.length cap, .slice A' y0.length cap'] w (RetT w) := by
  have RA := Lib.hid (show RdL w A (few x0) from h.take 18); clear h
  have RB := Lib.hid (show RdL w A' (few y0) from h'.take 18); clear h'
  have HX := Lib.hid (few_lim hx); clear hx
  have HY := Lib.hid (few_lim hy); clear hy
  have T := Lib.hid ht; clear ht
  have l1 := few_le x0
  have l2 := few_le y0
  obtain ⟨xs, hxs⟩ : ∃ xs, few x0 = xs := ⟨_, rfl⟩
  obtain ⟨ys, hys⟩ : ∃ ys, few y0 = ys := ⟨_, rfl⟩
  rw [hxs] at RA HX l1 hr
  rw [hys] at RB HY l2 hr
  have F1 := Lib.hid (And.intro hc hxs); clear hc hxs
  have F2 := Lib.hid (And.intro hc' hys); clear hc' hys
  have HR := Lib.hid hr; clear hr
  have HW := Lib.hid (bel_refl w)
  go_enter Tryd.func5, Tryd.ntmps5
  go_wp2_with fail
  refine (few_is A cap x0 xs _ F1.out.1 F1.out.2).mono ?_
  rintro e w1 ⟨rfl, hbl⟩
  replace RA := Lib.hid (RA.out.below hbl)
  replace RB := Lib.hid (RB.out.below hbl)
  replace T := Lib.hid (T.out.below hbl)
  replace HW := Lib.hid (bel_trans HW.out hbl); clear hbl
  go_wp2_with fail
  refine (few_is A' cap' y0 ys _ F2.out.1 F2.out.2).mono ?_
  rintro e w2 ⟨rfl, hbl⟩
  replace RA := Lib.hid (RA.out.below hbl)
  replace RB := Lib.hid (RB.out.below hbl)
  replace T := Lib.hid (T.out.below hbl)
  replace HW := Lib.hid (bel_trans HW.out hbl); clear hbl
  go_wp2_with fail
  refine (add_wrong A A' cap cap' xs ys _ RA.out RB.out (by omega) (by omega) HR.out).mono ?_
  rintro e w3 ⟨v4, rfl, hn4, hbl⟩
  replace RA := Lib.hid (RA.out.below hbl)
  replace RB := Lib.hid (RB.out.below hbl)
  replace T := Lib.hid (T.out.below hbl)
  replace HW := Lib.hid (bel_trans HW.out hbl); clear hbl
  have HN4 := Lib.hid hn4; clear hn4
  obtain ⟨A4, c4, rfl, hc4, hr4⟩ := HN4.out.row
  have R4 := Lib.hid hr4; clear hr4 hc4
  rw [limbs0]
  go_wp2_with fail
  refine (add_wrong A' A cap' cap ys xs _ RB.out RA.out (by omega) (by omega) (right_swap HR.out)).mono ?_
  rintro e w4 ⟨v5, rfl, hn5, hbl⟩
  replace RA := Lib.hid (RA.out.below hbl)
  replace RB := Lib.hid (RB.out.below hbl)
  replace T := Lib.hid (T.out.below hbl)
  replace R4 := Lib.hid (R4.out.below hbl)
  replace HN4 := Lib.hid (HN4.out.below hbl)
  replace HW := Lib.hid (bel_trans HW.out hbl); clear hbl
  have HN5 := Lib.hid hn5; clear hn5
  obtain ⟨A5, c5, rfl, hc5, hr5⟩ := HN5.out.row
  have R5 := Lib.hid hr5; clear hr5 hc5
  rw [limbs0]
  go_wp2_with fail
  refine (mul_wrong A A' cap cap' xs ys _ RA.out RB.out (by omega) (by omega) HR.out).mono ?_
  rintro e w5 ⟨v6, rfl, hn6, hbl⟩
  replace RA := Lib.hid (RA.out.below hbl)
  replace RB := Lib.hid (RB.out.below hbl)
  replace T := Lib.hid (T.out.below hbl)
  replace R4 := Lib.hid (R4.out.below hbl)
  replace HN4 := Lib.hid (HN4.out.below hbl)
  replace R5 := Lib.hid (R5.out.below hbl)
  replace HN5 := Lib.hid (HN5.out.below hbl)
  replace HW := Lib.hid (bel_trans HW.out hbl); clear hbl
  have HN6 := Lib.hid hn6; clear hn6
  obtain ⟨A6, c6, rfl, hc6, hr6⟩ := HN6.out.row
  have R6 := Lib.hid hr6; clear hr6 hc6
  rw [limbs0]
  go_wp2_with fail
  refine (mul_wrong A' A cap' cap ys xs _ RB.out RA.out (by omega) (by omega) (right_swap HR.out)).mono ?_
  rintro e w6 ⟨v7, rfl, hn7, hbl⟩
  replace RA := Lib.hid (RA.out.below hbl)
  replace RB := Lib.hid (RB.out.below hbl)
  replace T := Lib.hid (T.out.below hbl)
  replace R4 := Lib.hid (R4.out.below hbl)
  replace HN4 := Lib.hid (HN4.out.below hbl)
  replace R5 := Lib.hid (R5.out.below hbl)
  replace HN5 := Lib.hid (HN5.out.below hbl)
  replace R6 := Lib.hid (R6.out.below hbl)
  replace HN6 := Lib.hid (HN6.out.below hbl)
  replace HW := Lib.hid (bel_trans HW.out hbl); clear hbl
  have HN7 := Lib.hid hn7; clear hn7
  obtain ⟨A7, c7, rfl, hc7, hr7⟩ := HN7.out.row
  have R7 := Lib.hid hr7; clear hr7 hc7
  rw [limbs0]
  go_wp2_with fail
  refine (same_nil A4 A5 c4 c5 _).mono ?_
  rintro e w7 ⟨rfl, hbl⟩
  replace RA := Lib.hid (RA.out.below hbl)
  replace RB := Lib.hid (RB.out.below hbl)
  replace T := Lib.hid (T.out.below hbl)
  replace R4 := Lib.hid (R4.out.below hbl)
  replace HN4 := Lib.hid (HN4.out.below hbl)
  replace R5 := Lib.hid (R5.out.below hbl)
  replace HN5 := Lib.hid (HN5.out.below hbl)
  replace R6 := Lib.hid (R6.out.below hbl)
  replace HN6 := Lib.hid (HN6.out.below hbl)
  replace R7 := Lib.hid (R7.out.below hbl)
  replace HN7 := Lib.hid (HN7.out.below hbl)
  replace HW := Lib.hid (bel_trans HW.out hbl); clear hbl
  go_wp2_with fail
  refine (same_nil A6 A7 c6 c7 _).mono ?_
  rintro e w8 ⟨rfl, hbl⟩
  replace RA := Lib.hid (RA.out.below hbl)
  replace RB := Lib.hid (RB.out.below hbl)
  replace T := Lib.hid (T.out.below hbl)
  replace R4 := Lib.hid (R4.out.below hbl)
  replace HN4 := Lib.hid (HN4.out.below hbl)
  replace R5 := Lib.hid (R5.out.below hbl)
  replace HN5 := Lib.hid (HN5.out.below hbl)
  replace R6 := Lib.hid (R6.out.below hbl)
  replace HN6 := Lib.hid (HN6.out.below hbl)
  replace R7 := Lib.hid (R7.out.below hbl)
  replace HN7 := Lib.hid (HN7.out.below hbl)
  replace HW := Lib.hid (bel_trans HW.out hbl); clear hbl
  go_wp2_with fail
  refine (alive_any _ T.out).mono ?_
  rintro e w9 ⟨rfl, hbl⟩
  replace RA := Lib.hid (RA.out.below hbl)
  replace RB := Lib.hid (RB.out.below hbl)
  replace T := Lib.hid (T.out.below hbl)
  replace R4 := Lib.hid (R4.out.below hbl)
  replace HN4 := Lib.hid (HN4.out.below hbl)
  replace R5 := Lib.hid (R5.out.below hbl)
  replace HN5 := Lib.hid (HN5.out.below hbl)
  replace R6 := Lib.hid (R6.out.below hbl)
  replace HN6 := Lib.hid (HN6.out.below hbl)
  replace R7 := Lib.hid (R7.out.below hbl)
  replace HN7 := Lib.hid (HN7.out.below hbl)
  replace HW := Lib.hid (bel_trans HW.out hbl); clear hbl
  rcases div_neg HR.out with hr | ⟨hr, hry⟩
  · go_wp2_with fail
    refine (text_bad A cap xs _ RA.out l1 hr).mono ?_
    rintro e w10 ⟨rfl, hbl⟩
    replace RA := Lib.hid (RA.out.below hbl)
    replace RB := Lib.hid (RB.out.below hbl)
    replace T := Lib.hid (T.out.below hbl)
    replace R4 := Lib.hid (R4.out.below hbl)
    replace HN4 := Lib.hid (HN4.out.below hbl)
    replace R5 := Lib.hid (R5.out.below hbl)
    replace HN5 := Lib.hid (HN5.out.below hbl)
    replace R6 := Lib.hid (R6.out.below hbl)
    replace HN6 := Lib.hid (HN6.out.below hbl)
    replace R7 := Lib.hid (R7.out.below hbl)
    replace HN7 := Lib.hid (HN7.out.below hbl)
    replace HW := Lib.hid (bel_trans HW.out hbl); clear hbl
    go_wp2_with fail
    refine (right_bb A cap xs _ RA.out l1).mono ?_
    rintro e w11 ⟨rfl, hbl⟩
    replace RA := Lib.hid (RA.out.below hbl)
    replace RB := Lib.hid (RB.out.below hbl)
    replace T := Lib.hid (T.out.below hbl)
    replace R4 := Lib.hid (R4.out.below hbl)
    replace HN4 := Lib.hid (HN4.out.below hbl)
    replace R5 := Lib.hid (R5.out.below hbl)
    replace HN5 := Lib.hid (HN5.out.below hbl)
    replace R6 := Lib.hid (R6.out.below hbl)
    replace HN6 := Lib.hid (HN6.out.below hbl)
    replace R7 := Lib.hid (R7.out.below hbl)
    replace HN7 := Lib.hid (HN7.out.below hbl)
    replace HW := Lib.hid (bel_trans HW.out hbl); clear hbl
    rw [hr]
    go_wp2
    go_ret
    exact ⟨rfl, HW.out⟩
  · obtain ⟨a, rfl, ha2⟩ := right_num HX.out hr
    have LA := Lib.hid ha2; clear ha2
    go_wp2_with fail
    refine (text_ok A cap a _ RA.out LA.out).mono ?_
    rintro e w10 ⟨rfl, hbl⟩
    replace RA := Lib.hid (RA.out.below hbl)
    replace RB := Lib.hid (RB.out.below hbl)
    replace T := Lib.hid (T.out.below hbl)
    replace R4 := Lib.hid (R4.out.below hbl)
    replace HN4 := Lib.hid (HN4.out.below hbl)
    replace R5 := Lib.hid (R5.out.below hbl)
    replace HN5 := Lib.hid (HN5.out.below hbl)
    replace R6 := Lib.hid (R6.out.below hbl)
    replace HN6 := Lib.hid (HN6.out.below hbl)
    replace R7 := Lib.hid (R7.out.below hbl)
    replace HN7 := Lib.hid (HN7.out.below hbl)
    replace HW := Lib.hid (bel_trans HW.out hbl); clear hbl
    go_wp2_with fail
    refine (parse_dec a LA.out _ T.out).mono ?_
    rintro e w11 ⟨v8, rfl, hn8, hbl⟩
    replace RA := Lib.hid (RA.out.below hbl)
    replace RB := Lib.hid (RB.out.below hbl)
    replace T := Lib.hid (T.out.below hbl)
    replace R4 := Lib.hid (R4.out.below hbl)
    replace HN4 := Lib.hid (HN4.out.below hbl)
    replace R5 := Lib.hid (R5.out.below hbl)
    replace HN5 := Lib.hid (HN5.out.below hbl)
    replace R6 := Lib.hid (R6.out.below hbl)
    replace HN6 := Lib.hid (HN6.out.below hbl)
    replace R7 := Lib.hid (R7.out.below hbl)
    replace HN7 := Lib.hid (HN7.out.below hbl)
    replace HW := Lib.hid (bel_trans HW.out hbl); clear hbl
    have HN8 := Lib.hid hn8; clear hn8
    obtain ⟨A8, c8, rfl, hc8, hr8⟩ := HN8.out.row
    have R8 := Lib.hid hr8; clear hr8 hc8
    go_wp2_with fail
    refine (same_num a a rfl A8 A c8 cap _ R8.out RA.out LA.out).mono ?_
    rintro e w12 ⟨rfl, hbl⟩
    replace RA := Lib.hid (RA.out.below hbl)
    replace RB := Lib.hid (RB.out.below hbl)
    replace T := Lib.hid (T.out.below hbl)
    replace R4 := Lib.hid (R4.out.below hbl)
    replace HN4 := Lib.hid (HN4.out.below hbl)
    replace R5 := Lib.hid (R5.out.below hbl)
    replace HN5 := Lib.hid (HN5.out.below hbl)
    replace R6 := Lib.hid (R6.out.below hbl)
    replace HN6 := Lib.hid (HN6.out.below hbl)
    replace R7 := Lib.hid (R7.out.below hbl)
    replace HN7 := Lib.hid (HN7.out.below hbl)
    replace R8 := Lib.hid (R8.out.below hbl)
    replace HN8 := Lib.hid (HN8.out.below hbl)
    replace HW := Lib.hid (bel_trans HW.out hbl); clear hbl
    go_wp2_with fail
    refine (div_bad A A' cap cap' (limbs a) ys _ RA.out RB.out (len18 LA.out) l2 HR.out).mono ?_
    rintro e w13 ⟨v9, v10, rfl, hn9, hn10, hbl⟩
    replace RA := Lib.hid (RA.out.below hbl)
    replace RB := Lib.hid (RB.out.below hbl)
    replace T := Lib.hid (T.out.below hbl)
    replace R4 := Lib.hid (R4.out.below hbl)
    replace HN4 := Lib.hid (HN4.out.below hbl)
    replace R5 := Lib.hid (R5.out.below hbl)
    replace HN5 := Lib.hid (HN5.out.below hbl)
    replace R6 := Lib.hid (R6.out.below hbl)
    replace HN6 := Lib.hid (HN6.out.below hbl)
    replace R7 := Lib.hid (R7.out.below hbl)
    replace HN7 := Lib.hid (HN7.out.below hbl)
    replace R8 := Lib.hid (R8.out.below hbl)
    replace HN8 := Lib.hid (HN8.out.below hbl)
    replace HW := Lib.hid (bel_trans HW.out hbl); clear hbl
    have HN9 := Lib.hid hn9; clear hn9
    obtain ⟨A9, c9, rfl, hc9, hr9⟩ := HN9.out.row
    have R9 := Lib.hid hr9; clear hr9 hc9
    have HN10 := Lib.hid hn10; clear hn10
    obtain ⟨A10, c10, rfl, hc10, hr10⟩ := HN10.out.row
    have R10 := Lib.hid hr10; clear hr10 hc10
    have hy0 := wrong_len hry
    go_wp2_with fail
    refine (right_bb A' cap' ys _ RB.out l2).mono ?_
    rintro e w14 ⟨rfl, hbl⟩
    replace RA := Lib.hid (RA.out.below hbl)
    replace RB := Lib.hid (RB.out.below hbl)
    replace T := Lib.hid (T.out.below hbl)
    replace R4 := Lib.hid (R4.out.below hbl)
    replace HN4 := Lib.hid (HN4.out.below hbl)
    replace R5 := Lib.hid (R5.out.below hbl)
    replace HN5 := Lib.hid (HN5.out.below hbl)
    replace R6 := Lib.hid (R6.out.below hbl)
    replace HN6 := Lib.hid (HN6.out.below hbl)
    replace R7 := Lib.hid (R7.out.below hbl)
    replace HN7 := Lib.hid (HN7.out.below hbl)
    replace R8 := Lib.hid (R8.out.below hbl)
    replace HN8 := Lib.hid (HN8.out.below hbl)
    replace R9 := Lib.hid (R9.out.below hbl)
    replace HN9 := Lib.hid (HN9.out.below hbl)
    replace R10 := Lib.hid (R10.out.below hbl)
    replace HN10 := Lib.hid (HN10.out.below hbl)
    replace HW := Lib.hid (bel_trans HW.out hbl); clear hbl
    rw [hry]
    go_wp2
    go_ret
    exact ⟨rfl, HW.out⟩

set_option maxRecDepth 100000 in
set_option maxHeartbeats 1000000 in
theorem back_right (A A' : Option Addr) (cap cap' : Nat) (x0 y0 : List Nat) (a b : Nat) (w : World) (h : RdL w A x0) (h' : RdL w A' y0) (hc : x0.length ≤ cap) (hc' : y0.length ≤ cap') (ht : Bases w) (ha : few x0 = limbs a) (hb : few y0 = limbs b) (ha2 : a < Top) (hb2 : b < Top) :
    Calls Tryd.prog 5 #[.slice A x0.length cap, .slice A' y0.length cap'] w (RetT w) := by
  have RA := Lib.hid (show RdL w A (few x0) from h.take 18); clear h
  have RB := Lib.hid (show RdL w A' (few y0) from h'.take 18); clear h'
  have T := Lib.hid ht; clear ht
  rw [ha] at RA
  rw [hb] at RB
  have F1 := Lib.hid (And.intro hc ha); clear hc ha
  have F2 := Lib.hid (And.intro hc' hb); clear hc' hb
  have LA := Lib.hid ha2; clear ha2
  have LB := Lib.hid hb2; clear hb2
  have HW := Lib.hid (bel_refl w)
  go_enter Tryd.func5, Tryd.ntmps5
  go_wp2_with fail
  refine (few_is A cap x0 (limbs a) _ F1.out.1 F1.out.2).mono ?_
  rintro e w1 ⟨rfl, hbl⟩
  replace RA := Lib.hid (RA.out.below hbl)
  replace RB := Lib.hid (RB.out.below hbl)
  replace T := Lib.hid (T.out.below hbl)
  replace HW := Lib.hid (bel_trans HW.out hbl); clear hbl
  go_wp2_with fail
  refine (few_is A' cap' y0 (limbs b) _ F2.out.1 F2.out.2).mono ?_
  rintro e w2 ⟨rfl, hbl⟩
  replace RA := Lib.hid (RA.out.below hbl)
  replace RB := Lib.hid (RB.out.below hbl)
  replace T := Lib.hid (T.out.below hbl)
  replace HW := Lib.hid (bel_trans HW.out hbl); clear hbl
  go_wp2_with fail
  refine (add_num A A' cap cap' a b _ RA.out RB.out LA.out LB.out).mono ?_
  rintro e w3 ⟨v4, rfl, hn4, hbl⟩
  replace RA := Lib.hid (RA.out.below hbl)
  replace RB := Lib.hid (RB.out.below hbl)
  replace T := Lib.hid (T.out.below hbl)
  replace HW := Lib.hid (bel_trans HW.out hbl); clear hbl
  have HN4 := Lib.hid hn4; clear hn4
  obtain ⟨A4, c4, rfl, hc4, hr4⟩ := HN4.out.row
  have R4 := Lib.hid hr4; clear hr4 hc4
  go_wp2_with fail
  refine (add_turned A A' cap cap' a b _ RA.out RB.out LA.out LB.out).mono ?_
  rintro e w4 ⟨v5, rfl, hn5, hbl⟩
  replace RA := Lib.hid (RA.out.below hbl)
  replace RB := Lib.hid (RB.out.below hbl)
  replace T := Lib.hid (T.out.below hbl)
  replace R4 := Lib.hid (R4.out.below hbl)
  replace HN4 := Lib.hid (HN4.out.below hbl)
  replace HW := Lib.hid (bel_trans HW.out hbl); clear hbl
  have HN5 := Lib.hid hn5; clear hn5
  obtain ⟨A5, c5, rfl, hc5, hr5⟩ := HN5.out.row
  have R5 := Lib.hid hr5; clear hr5 hc5
  go_wp2_with fail
  refine (mul_num A A' cap cap' a b _ RA.out RB.out LA.out LB.out).mono ?_
  rintro e w5 ⟨v6, rfl, hn6, hbl⟩
  replace RA := Lib.hid (RA.out.below hbl)
  replace RB := Lib.hid (RB.out.below hbl)
  replace T := Lib.hid (T.out.below hbl)
  replace R4 := Lib.hid (R4.out.below hbl)
  replace HN4 := Lib.hid (HN4.out.below hbl)
  replace R5 := Lib.hid (R5.out.below hbl)
  replace HN5 := Lib.hid (HN5.out.below hbl)
  replace HW := Lib.hid (bel_trans HW.out hbl); clear hbl
  have HN6 := Lib.hid hn6; clear hn6
  obtain ⟨A6, c6, rfl, hc6, hr6⟩ := HN6.out.row
  have R6 := Lib.hid hr6; clear hr6 hc6
  go_wp2_with fail
  refine (mul_turned A A' cap cap' a b _ RA.out RB.out LA.out LB.out).mono ?_
  rintro e w6 ⟨v7, rfl, hn7, hbl⟩
  replace RA := Lib.hid (RA.out.below hbl)
  replace RB := Lib.hid (RB.out.below hbl)
  replace T := Lib.hid (T.out.below hbl)
  replace R4 := Lib.hid (R4.out.below hbl)
  replace HN4 := Lib.hid (HN4.out.below hbl)
  replace R5 := Lib.hid (R5.out.below hbl)
  replace HN5 := Lib.hid (HN5.out.below hbl)
  replace R6 := Lib.hid (R6.out.below hbl)
  replace HN6 := Lib.hid (HN6.out.below hbl)
  replace HW := Lib.hid (bel_trans HW.out hbl); clear hbl
  have HN7 := Lib.hid hn7; clear hn7
  obtain ⟨A7, c7, rfl, hc7, hr7⟩ := HN7.out.row
  have R7 := Lib.hid hr7; clear hr7 hc7
  have hs1 : (fitC (a + b) != fitC (a + b)) = false := by simp
  have hs2 : (fitC (a * b) != fitC (a * b)) = false := by simp
  go_wp2_with fail
  refine (same_num _ _ rfl A4 A5 c4 c5 _ R4.out R5.out (fitN_top _)).mono ?_
  rintro e w7 ⟨rfl, hbl⟩
  replace RA := Lib.hid (RA.out.below hbl)
  replace RB := Lib.hid (RB.out.below hbl)
  replace T := Lib.hid (T.out.below hbl)
  replace R4 := Lib.hid (R4.out.below hbl)
  replace HN4 := Lib.hid (HN4.out.below hbl)
  replace R5 := Lib.hid (R5.out.below hbl)
  replace HN5 := Lib.hid (HN5.out.below hbl)
  replace R6 := Lib.hid (R6.out.below hbl)
  replace HN6 := Lib.hid (HN6.out.below hbl)
  replace R7 := Lib.hid (R7.out.below hbl)
  replace HN7 := Lib.hid (HN7.out.below hbl)
  replace HW := Lib.hid (bel_trans HW.out hbl); clear hbl
  go_wp2_with fail
  refine (same_num _ _ rfl A6 A7 c6 c7 _ R6.out R7.out (fitN_top _)).mono ?_
  rintro e w8 ⟨rfl, hbl⟩
  replace RA := Lib.hid (RA.out.below hbl)
  replace RB := Lib.hid (RB.out.below hbl)
  replace T := Lib.hid (T.out.below hbl)
  replace R4 := Lib.hid (R4.out.below hbl)
  replace HN4 := Lib.hid (HN4.out.below hbl)
  replace R5 := Lib.hid (R5.out.below hbl)
  replace HN5 := Lib.hid (HN5.out.below hbl)
  replace R6 := Lib.hid (R6.out.below hbl)
  replace HN6 := Lib.hid (HN6.out.below hbl)
  replace R7 := Lib.hid (R7.out.below hbl)
  replace HN7 := Lib.hid (HN7.out.below hbl)
  replace HW := Lib.hid (bel_trans HW.out hbl); clear hbl
  go_wp2_with fail
  refine (alive_any _ T.out).mono ?_
  rintro e w9 ⟨rfl, hbl⟩
  replace RA := Lib.hid (RA.out.below hbl)
  replace RB := Lib.hid (RB.out.below hbl)
  replace T := Lib.hid (T.out.below hbl)
  replace R4 := Lib.hid (R4.out.below hbl)
  replace HN4 := Lib.hid (HN4.out.below hbl)
  replace R5 := Lib.hid (R5.out.below hbl)
  replace HN5 := Lib.hid (HN5.out.below hbl)
  replace R6 := Lib.hid (R6.out.below hbl)
  replace HN6 := Lib.hid (HN6.out.below hbl)
  replace R7 := Lib.hid (R7.out.below hbl)
  replace HN7 := Lib.hid (HN7.out.below hbl)
  replace HW := Lib.hid (bel_trans HW.out hbl); clear hbl
  go_wp2_with fail
  refine (text_ok A cap a _ RA.out LA.out).mono ?_
  rintro e w10 ⟨rfl, hbl⟩
  replace RA := Lib.hid (RA.out.below hbl)
  replace RB := Lib.hid (RB.out.below hbl)
  replace T := Lib.hid (T.out.below hbl)
  replace R4 := Lib.hid (R4.out.below hbl)
  replace HN4 := Lib.hid (HN4.out.below hbl)
  replace R5 := Lib.hid (R5.out.below hbl)
  replace HN5 := Lib.hid (HN5.out.below hbl)
  replace R6 := Lib.hid (R6.out.below hbl)
  replace HN6 := Lib.hid (HN6.out.below hbl)
  replace R7 := Lib.hid (R7.out.below hbl)
  replace HN7 := Lib.hid (HN7.out.below hbl)
  replace HW := Lib.hid (bel_trans HW.out hbl); clear hbl
  go_wp2_with fail
  refine (parse_dec a LA.out _ T.out).mono ?_
  rintro e w11 ⟨v8, rfl, hn8, hbl⟩
  replace RA := Lib.hid (RA.out.below hbl)
  replace RB := Lib.hid (RB.out.below hbl)
  replace T := Lib.hid (T.out.below hbl)
  replace R4 := Lib.hid (R4.out.below hbl)
  replace HN4 := Lib.hid (HN4.out.below hbl)
  replace R5 := Lib.hid (R5.out.below hbl)
  replace HN5 := Lib.hid (HN5.out.below hbl)
  replace R6 := Lib.hid (R6.out.below hbl)
  replace HN6 := Lib.hid (HN6.out.below hbl)
  replace R7 := Lib.hid (R7.out.below hbl)
  replace HN7 := Lib.hid (HN7.out.below hbl)
  replace HW := Lib.hid (bel_trans HW.out hbl); clear hbl
  have HN8 := Lib.hid hn8; clear hn8
  obtain ⟨A8, c8, rfl, hc8, hr8⟩ := HN8.out.row
  have R8 := Lib.hid hr8; clear hr8 hc8
  go_wp2_with fail
  refine (same_num a a rfl A8 A c8 cap _ R8.out RA.out LA.out).mono ?_
  rintro e w12 ⟨rfl, hbl⟩
  replace RA := Lib.hid (RA.out.below hbl)
  replace RB := Lib.hid (RB.out.below hbl)
  replace T := Lib.hid (T.out.below hbl)
  replace R4 := Lib.hid (R4.out.below hbl)
  replace HN4 := Lib.hid (HN4.out.below hbl)
  replace R5 := Lib.hid (R5.out.below hbl)
  replace HN5 := Lib.hid (HN5.out.below hbl)
  replace R6 := Lib.hid (R6.out.below hbl)
  replace HN6 := Lib.hid (HN6.out.below hbl)
  replace R7 := Lib.hid (R7.out.below hbl)
  replace HN7 := Lib.hid (HN7.out.below hbl)
  replace R8 := Lib.hid (R8.out.below hbl)
  replace HN8 := Lib.hid (HN8.out.below hbl)
  replace HW := Lib.hid (bel_trans HW.out hbl); clear hbl
  by_cases hb0 : b = 0
  · subst hb0
    rw [limbs0]
    go_wp2_with fail
    refine (div_none A A' cap cap' a _ RA.out LA.out).mono ?_
    rintro e w13 ⟨v9, v10, rfl, hn9, hn10, hbl⟩
    replace RA := Lib.hid (RA.out.below hbl)
    replace RB := Lib.hid (RB.out.below hbl)
    replace T := Lib.hid (T.out.below hbl)
    replace R4 := Lib.hid (R4.out.below hbl)
    replace HN4 := Lib.hid (HN4.out.below hbl)
    replace R5 := Lib.hid (R5.out.below hbl)
    replace HN5 := Lib.hid (HN5.out.below hbl)
    replace R6 := Lib.hid (R6.out.below hbl)
    replace HN6 := Lib.hid (HN6.out.below hbl)
    replace R7 := Lib.hid (R7.out.below hbl)
    replace HN7 := Lib.hid (HN7.out.below hbl)
    replace R8 := Lib.hid (R8.out.below hbl)
    replace HN8 := Lib.hid (HN8.out.below hbl)
    replace HW := Lib.hid (bel_trans HW.out hbl); clear hbl
    have HN9 := Lib.hid hn9; clear hn9
    obtain ⟨A9, c9, rfl, hc9, hr9⟩ := HN9.out.row
    have R9 := Lib.hid hr9; clear hr9 hc9
    have HN10 := Lib.hid hn10; clear hn10
    obtain ⟨A10, c10, rfl, hc10, hr10⟩ := HN10.out.row
    have R10 := Lib.hid hr10; clear hr10 hc10
    go_wp2
    go_ret
    exact ⟨rfl, HW.out⟩
  · have HB0 := Lib.hid hb0; clear hb0
    go_wp2_with fail
    refine (div_num A A' cap cap' a b _ RA.out RB.out LA.out LB.out HB0.out).mono ?_
    rintro e w13 ⟨v9, v10, rfl, hn9, hn10, hbl⟩
    replace RA := Lib.hid (RA.out.below hbl)
    replace RB := Lib.hid (RB.out.below hbl)
    replace T := Lib.hid (T.out.below hbl)
    replace R4 := Lib.hid (R4.out.below hbl)
    replace HN4 := Lib.hid (HN4.out.below hbl)
    replace R5 := Lib.hid (R5.out.below hbl)
    replace HN5 := Lib.hid (HN5.out.below hbl)
    replace R6 := Lib.hid (R6.out.below hbl)
    replace HN6 := Lib.hid (HN6.out.below hbl)
    replace R7 := Lib.hid (R7.out.below hbl)
    replace HN7 := Lib.hid (HN7.out.below hbl)
    replace R8 := Lib.hid (R8.out.below hbl)
    replace HN8 := Lib.hid (HN8.out.below hbl)
    replace HW := Lib.hid (bel_trans HW.out hbl); clear hbl
    have HN9 := Lib.hid hn9; clear hn9
    obtain ⟨A9, c9, rfl, hc9, hr9⟩ := HN9.out.row
    have R9 := Lib.hid hr9; clear hr9 hc9
    have HN10 := Lib.hid hn10; clear hn10
    obtain ⟨A10, c10, rfl, hc10, hr10⟩ := HN10.out.row
    have R10 := Lib.hid hr10; clear hr10 hc10
    have Q1 := Lib.hid (lt_top (Nat.div_le_self a b) LA.out)
    have Q2 := Lib.hid (lt_top (Nat.mod_le a b) LA.out)
    go_wp2_with fail
    refine (mul_small A9 A' c9 cap' (a / b) b (a / b * b) _ R9.out RB.out Q1.out LB.out rfl (mul_div_top LA.out)).mono ?_
    rintro e w14 ⟨v11, rfl, hn11, hbl⟩
    replace RA := Lib.hid (RA.out.below hbl)
    replace RB := Lib.hid (RB.out.below hbl)
    replace T := Lib.hid (T.out.below hbl)
    replace R4 := Lib.hid (R4.out.below hbl)
    replace HN4 := Lib.hid (HN4.out.below hbl)
    replace R5 := Lib.hid (R5.out.below hbl)
    replace HN5 := Lib.hid (HN5.out.below hbl)
    replace R6 := Lib.hid (R6.out.below hbl)
    replace HN6 := Lib.hid (HN6.out.below hbl)
    replace R7 := Lib.hid (R7.out.below hbl)
    replace HN7 := Lib.hid (HN7.out.below hbl)
    replace R8 := Lib.hid (R8.out.below hbl)
    replace HN8 := Lib.hid (HN8.out.below hbl)
    replace R9 := Lib.hid (R9.out.below hbl)
    replace HN9 := Lib.hid (HN9.out.below hbl)
    replace R10 := Lib.hid (R10.out.below hbl)
    replace HN10 := Lib.hid (HN10.out.below hbl)
    replace HW := Lib.hid (bel_trans HW.out hbl); clear hbl
    have HN11 := Lib.hid hn11; clear hn11
    obtain ⟨A11, c11, rfl, hc11, hr11⟩ := HN11.out.row
    have R11 := Lib.hid hr11; clear hr11 hc11
    go_wp2_with fail
    refine (add_small A11 A10 c11 c10 (a / b * b) (a % b) a _ R11.out R10.out (mul_div_top LA.out) Q2.out (div_add_eq a b) LA.out).mono ?_
    rintro e w15 ⟨v12, rfl, hn12, hbl⟩
    replace RA := Lib.hid (RA.out.below hbl)
    replace RB := Lib.hid (RB.out.below hbl)
    replace T := Lib.hid (T.out.below hbl)
    replace R4 := Lib.hid (R4.out.below hbl)
    replace HN4 := Lib.hid (HN4.out.below hbl)
    replace R5 := Lib.hid (R5.out.below hbl)
    replace HN5 := Lib.hid (HN5.out.below hbl)
    replace R6 := Lib.hid (R6.out.below hbl)
    replace HN6 := Lib.hid (HN6.out.below hbl)
    replace R7 := Lib.hid (R7.out.below hbl)
    replace HN7 := Lib.hid (HN7.out.below hbl)
    replace R8 := Lib.hid (R8.out.below hbl)
    replace HN8 := Lib.hid (HN8.out.below hbl)
    replace R9 := Lib.hid (R9.out.below hbl)
    replace HN9 := Lib.hid (HN9.out.below hbl)
    replace R10 := Lib.hid (R10.out.below hbl)
    replace HN10 := Lib.hid (HN10.out.below hbl)
    replace R11 := Lib.hid (R11.out.below hbl)
    replace HN11 := Lib.hid (HN11.out.below hbl)
    replace HW := Lib.hid (bel_trans HW.out hbl); clear hbl
    have HN12 := Lib.hid hn12; clear hn12
    obtain ⟨A12, c12, rfl, hc12, hr12⟩ := HN12.out.row
    have R12 := Lib.hid hr12; clear hr12 hc12
    go_wp2_with fail
    refine (cmp_lt A10 A' c10 cap' (a % b) b _ R10.out RB.out Q2.out LB.out (Nat.mod_lt a (Nat.pos_of_ne_zero HB0.out))).mono ?_
    rintro e w16 ⟨rfl, hbl⟩
    replace RA := Lib.hid (RA.out.below hbl)
    replace RB := Lib.hid (RB.out.below hbl)
    replace T := Lib.hid (T.out.below hbl)
    replace R4 := Lib.hid (R4.out.below hbl)
    replace HN4 := Lib.hid (HN4.out.below hbl)
    replace R5 := Lib.hid (R5.out.below hbl)
    replace HN5 := Lib.hid (HN5.out.below hbl)
    replace R6 := Lib.hid (R6.out.below hbl)
    replace HN6 := Lib.hid (HN6.out.below hbl)
    replace R7 := Lib.hid (R7.out.below hbl)
    replace HN7 := Lib.hid (HN7.out.below hbl)
    replace R8 := Lib.hid (R8.out.below hbl)
    replace HN8 := Lib.hid (HN8.out.below hbl)
    replace R9 := Lib.hid (R9.out.below hbl)
    replace HN9 := Lib.hid (HN9.out.below hbl)
    replace R10 := Lib.hid (R10.out.below hbl)
    replace HN10 := Lib.hid (HN10.out.below hbl)
    replace R11 := Lib.hid (R11.out.below hbl)
    replace HN11 := Lib.hid (HN11.out.below hbl)
    replace R12 := Lib.hid (R12.out.below hbl)
    replace HN12 := Lib.hid (HN12.out.below hbl)
    replace HW := Lib.hid (bel_trans HW.out hbl); clear hbl
    go_wp2_with fail
    refine (same_num a a rfl A12 A c12 cap _ R12.out RA.out LA.out).mono ?_
    rintro e w17 ⟨rfl, hbl⟩
    replace RA := Lib.hid (RA.out.below hbl)
    replace RB := Lib.hid (RB.out.below hbl)
    replace T := Lib.hid (T.out.below hbl)
    replace R4 := Lib.hid (R4.out.below hbl)
    replace HN4 := Lib.hid (HN4.out.below hbl)
    replace R5 := Lib.hid (R5.out.below hbl)
    replace HN5 := Lib.hid (HN5.out.below hbl)
    replace R6 := Lib.hid (R6.out.below hbl)
    replace HN6 := Lib.hid (HN6.out.below hbl)
    replace R7 := Lib.hid (R7.out.below hbl)
    replace HN7 := Lib.hid (HN7.out.below hbl)
    replace R8 := Lib.hid (R8.out.below hbl)
    replace HN8 := Lib.hid (HN8.out.below hbl)
    replace R9 := Lib.hid (R9.out.below hbl)
    replace HN9 := Lib.hid (HN9.out.below hbl)
    replace R10 := Lib.hid (R10.out.below hbl)
    replace HN10 := Lib.hid (HN10.out.below hbl)
    replace R11 := Lib.hid (R11.out.below hbl)
    replace HN11 := Lib.hid (HN11.out.below hbl)
    replace R12 := Lib.hid (R12.out.below hbl)
    replace HN12 := Lib.hid (HN12.out.below hbl)
    replace HW := Lib.hid (bel_trans HW.out hbl); clear hbl
    go_wp2
    go_ret
    exact ⟨rfl, HW.out⟩

theorem law_back (A A' : Option Addr) (cap cap' : Nat) (x0 y0 : List Nat) (w : World) (h : RdL w A x0) (h' : RdL w A' y0) (hc : x0.length ≤ cap) (hc' : y0.length ≤ cap') (ht : Bases w) (hx : Lim x0) (hy : Lim y0) :
    Calls Tryd.prog 5 #[.slice A x0.length cap, .slice A' y0.length cap'] w (RetT w) := by
  cases hr : (rightL (few x0) && rightL (few y0))
  · exact back_wrong A A' cap cap' x0 y0 w h h' hc hc' ht hx hy hr
  · rw [Bool.and_eq_true] at hr
    obtain ⟨a, ha, ha2⟩ := right_num (few_lim hx) hr.1
    obtain ⟨b, hb, hb2⟩ := right_num (few_lim hy) hr.2
    exact back_right A A' cap cap' x0 y0 a b w h h' hc hc' ht ha hb ha2 hb2
end Go.Proofs.YtmbbdjpnecjleaaDoor
