/-
  The law NatShifts, walked.
-/
import Derived.Test.YtmbbdjpnecjleaaDoorNLaw3
namespace Go.Proofs.YtmbbdjpnecjleaaDoor
open Go.RowKit

set_option maxRecDepth 100000 in
set_option maxHeartbeats 1000000 in
theorem shifts_wrong (A : Option Addr) (cap : Nat) (x0 : List Nat) (i : Int) (w : World) (h : RdL w A x0) (hc : x0.length ≤ cap) (ht : Bases w) (hx : Lim x0) (hr : rightL (few x0) = false) :
    Calls Tryd.prog 7 #[.slice A x0.length cap, .int .i64 i] w (RetT w) := by
  have RA := Lib.hid (show RdL w A (few x0) from h.take 18); clear h
  have HX := Lib.hid (few_lim hx); clear hx
  have T := Lib.hid ht; clear ht
  have l1 := few_le x0
  obtain ⟨xs, hxs⟩ : ∃ xs, few x0 = xs := ⟨_, rfl⟩
  rw [hxs] at RA HX l1 hr
  have F1 := Lib.hid (And.intro hc hxs); clear hc hxs
  have HR := Lib.hid hr; clear hr
  obtain ⟨t, m, b1, b2, b3, b4, b5, b6, b7, hm⟩ := by300 i
  have HW := Lib.hid (bel_refl w)
  go_enter Tryd.func7, Tryd.ntmps7
  go_wp2_with fail
  refine (few_is A cap x0 xs _ F1.out.1 F1.out.2).mono ?_
  rintro e w1 ⟨rfl, hbl⟩
  replace RA := Lib.hid (RA.out.below hbl)
  replace T := Lib.hid (T.out.below hbl)
  replace HW := Lib.hid (bel_trans HW.out hbl); clear hbl
  go_wp2_with fail
  refine (shift_bad A cap xs _ _ RA.out HX.out l1 HR.out).mono ?_
  rintro e w2 ⟨v4, rfl, hn4, hbl⟩
  replace RA := Lib.hid (RA.out.below hbl)
  replace T := Lib.hid (T.out.below hbl)
  replace HW := Lib.hid (bel_trans HW.out hbl); clear hbl
  have HN4 := Lib.hid hn4; clear hn4
  obtain ⟨A4, c4, rfl, hc4, hr4⟩ := HN4.out.row
  have R4 := Lib.hid hr4; clear hr4 hc4
  rw [limbs0]
  go_wp2_with fail
  refine (shift_bad A cap xs _ _ RA.out HX.out l1 HR.out).mono ?_
  rintro e w3 ⟨v5, rfl, hn5, hbl⟩
  replace RA := Lib.hid (RA.out.below hbl)
  replace T := Lib.hid (T.out.below hbl)
  replace R4 := Lib.hid (R4.out.below hbl)
  replace HN4 := Lib.hid (HN4.out.below hbl)
  replace HW := Lib.hid (bel_trans HW.out hbl); clear hbl
  have HN5 := Lib.hid hn5; clear hn5
  obtain ⟨A5, c5, rfl, hc5, hr5⟩ := HN5.out.row
  have R5 := Lib.hid hr5; clear hr5 hc5
  rw [limbs0]
  go_wp2_with fail
  refine (add_wrong A A cap cap xs xs _ RA.out RA.out (by omega) (by omega) (by rw [HR.out]; rfl)).mono ?_
  rintro e w4 ⟨v6, rfl, hn6, hbl⟩
  replace RA := Lib.hid (RA.out.below hbl)
  replace T := Lib.hid (T.out.below hbl)
  replace R4 := Lib.hid (R4.out.below hbl)
  replace HN4 := Lib.hid (HN4.out.below hbl)
  replace R5 := Lib.hid (R5.out.below hbl)
  replace HN5 := Lib.hid (HN5.out.below hbl)
  replace HW := Lib.hid (bel_trans HW.out hbl); clear hbl
  have HN6 := Lib.hid hn6; clear hn6
  obtain ⟨A6, c6, rfl, hc6, hr6⟩ := HN6.out.row
  have R6 := Lib.hid hr6; clear hr6 hc6
  rw [limbs0]
  go_wp2_with fail
  refine (same_nil A5 A6 c5 c6 _).mono ?_
  rintro e w5 ⟨rfl, hbl⟩
  replace RA := Lib.hid (RA.out.below hbl)
  replace T := Lib.hid (T.out.below hbl)
  replace R4 := Lib.hid (R4.out.below hbl)
  replace HN4 := Lib.hid (HN4.out.below hbl)
  replace R5 := Lib.hid (R5.out.below hbl)
  replace HN5 := Lib.hid (HN5.out.below hbl)
  replace R6 := Lib.hid (R6.out.below hbl)
  replace HN6 := Lib.hid (HN6.out.below hbl)
  replace HW := Lib.hid (bel_trans HW.out hbl); clear hbl
  go_wp2_with fail
  refine (alive_any _ T.out).mono ?_
  rintro e w6 ⟨rfl, hbl⟩
  replace RA := Lib.hid (RA.out.below hbl)
  replace T := Lib.hid (T.out.below hbl)
  replace R4 := Lib.hid (R4.out.below hbl)
  replace HN4 := Lib.hid (HN4.out.below hbl)
  replace R5 := Lib.hid (R5.out.below hbl)
  replace HN5 := Lib.hid (HN5.out.below hbl)
  replace R6 := Lib.hid (R6.out.below hbl)
  replace HN6 := Lib.hid (HN6.out.below hbl)
  replace HW := Lib.hid (bel_trans HW.out hbl); clear hbl
  go_wp2_with fail
  refine (shift_bad A cap xs _ _ RA.out HX.out l1 HR.out).mono ?_
  rintro e w7 ⟨v7, rfl, hn7, hbl⟩
  replace RA := Lib.hid (RA.out.below hbl)
  replace T := Lib.hid (T.out.below hbl)
  replace R4 := Lib.hid (R4.out.below hbl)
  replace HN4 := Lib.hid (HN4.out.below hbl)
  replace R5 := Lib.hid (R5.out.below hbl)
  replace HN5 := Lib.hid (HN5.out.below hbl)
  replace R6 := Lib.hid (R6.out.below hbl)
  replace HN6 := Lib.hid (HN6.out.below hbl)
  replace HW := Lib.hid (bel_trans HW.out hbl); clear hbl
  have HN7 := Lib.hid hn7; clear hn7
  obtain ⟨A7, c7, rfl, hc7, hr7⟩ := HN7.out.row
  have R7 := Lib.hid hr7; clear hr7 hc7
  rw [limbs0]
  go_wp2_with fail
  refine (right_bb A cap xs _ RA.out l1).mono ?_
  rintro e w8 ⟨rfl, hbl⟩
  replace RA := Lib.hid (RA.out.below hbl)
  replace T := Lib.hid (T.out.below hbl)
  replace R4 := Lib.hid (R4.out.below hbl)
  replace HN4 := Lib.hid (HN4.out.below hbl)
  replace R5 := Lib.hid (R5.out.below hbl)
  replace HN5 := Lib.hid (HN5.out.below hbl)
  replace R6 := Lib.hid (R6.out.below hbl)
  replace HN6 := Lib.hid (HN6.out.below hbl)
  replace R7 := Lib.hid (R7.out.below hbl)
  replace HN7 := Lib.hid (HN7.out.below hbl)
  replace HW := Lib.hid (bel_trans HW.out hbl); clear hbl
  rw [HR.out]
  go_wp2
  go_ret
  exact ⟨rfl, HW.out⟩

set_option maxRecDepth 100000 in
set_option maxHeartbeats 1000000 in
theorem shifts_right (A : Option Addr) (cap : Nat) (x0 : List Nat) (i : Int) (a : Nat) (w : World) (h : RdL w A x0) (hc : x0.length ≤ cap) (ht : Bases w) (ha : few x0 = limbs a) (ha2 : a < Top) :
    Calls Tryd.prog 7 #[.slice A x0.length cap, .int .i64 i] w (RetT w) := by
  have RA := Lib.hid (show RdL w A (few x0) from h.take 18); clear h
  have T := Lib.hid ht; clear ht
  rw [ha] at RA
  have F1 := Lib.hid (And.intro hc ha); clear hc ha
  have LA := Lib.hid ha2; clear ha2
  obtain ⟨t, m, b1, b2, b3, b4, b5, b6, b7, hm⟩ := by300 i
  have HW := Lib.hid (bel_refl w)
  go_enter Tryd.func7, Tryd.ntmps7
  go_wp2_with fail
  refine (few_is A cap x0 (limbs a) _ F1.out.1 F1.out.2).mono ?_
  rintro e w1 ⟨rfl, hbl⟩
  replace RA := Lib.hid (RA.out.below hbl)
  replace T := Lib.hid (T.out.below hbl)
  replace HW := Lib.hid (bel_trans HW.out hbl); clear hbl
  go_wp2_with fail
  refine (shift_up A cap a m _ RA.out LA.out).mono ?_
  rintro e w2 ⟨v4, rfl, hn4, hbl⟩
  replace RA := Lib.hid (RA.out.below hbl)
  replace T := Lib.hid (T.out.below hbl)
  replace HW := Lib.hid (bel_trans HW.out hbl); clear hbl
  have HN4 := Lib.hid hn4; clear hn4
  obtain ⟨A4, c4, rfl, hc4, hr4⟩ := HN4.out.row
  have R4 := Lib.hid hr4; clear hr4 hc4
  go_wp2_with fail
  refine (shift_one A cap a _ RA.out LA.out).mono ?_
  rintro e w3 ⟨v5, rfl, hn5, hbl⟩
  replace RA := Lib.hid (RA.out.below hbl)
  replace T := Lib.hid (T.out.below hbl)
  replace R4 := Lib.hid (R4.out.below hbl)
  replace HN4 := Lib.hid (HN4.out.below hbl)
  replace HW := Lib.hid (bel_trans HW.out hbl); clear hbl
  have HN5 := Lib.hid hn5; clear hn5
  obtain ⟨A5, c5, rfl, hc5, hr5⟩ := HN5.out.row
  have R5 := Lib.hid hr5; clear hr5 hc5
  go_wp2_with fail
  refine (add_num A A cap cap a a _ RA.out RA.out LA.out LA.out).mono ?_
  rintro e w4 ⟨v6, rfl, hn6, hbl⟩
  replace RA := Lib.hid (RA.out.below hbl)
  replace T := Lib.hid (T.out.below hbl)
  replace R4 := Lib.hid (R4.out.below hbl)
  replace HN4 := Lib.hid (HN4.out.below hbl)
  replace R5 := Lib.hid (R5.out.below hbl)
  replace HN5 := Lib.hid (HN5.out.below hbl)
  replace HW := Lib.hid (bel_trans HW.out hbl); clear hbl
  have HN6 := Lib.hid hn6; clear hn6
  obtain ⟨A6, c6, rfl, hc6, hr6⟩ := HN6.out.row
  have R6 := Lib.hid hr6; clear hr6 hc6
  have hs1 : (fitC (a + a) != fitC (a + a)) = false := by simp
  go_wp2_with fail
  refine (same_num _ _ rfl A5 A6 c5 c6 _ R5.out R6.out (fitN_top _)).mono ?_
  rintro e w5 ⟨rfl, hbl⟩
  replace RA := Lib.hid (RA.out.below hbl)
  replace T := Lib.hid (T.out.below hbl)
  replace R4 := Lib.hid (R4.out.below hbl)
  replace HN4 := Lib.hid (HN4.out.below hbl)
  replace R5 := Lib.hid (R5.out.below hbl)
  replace HN5 := Lib.hid (HN5.out.below hbl)
  replace R6 := Lib.hid (R6.out.below hbl)
  replace HN6 := Lib.hid (HN6.out.below hbl)
  replace HW := Lib.hid (bel_trans HW.out hbl); clear hbl
  go_wp2_with fail
  refine (alive_any _ T.out).mono ?_
  rintro e w6 ⟨rfl, hbl⟩
  replace RA := Lib.hid (RA.out.below hbl)
  replace T := Lib.hid (T.out.below hbl)
  replace R4 := Lib.hid (R4.out.below hbl)
  replace HN4 := Lib.hid (HN4.out.below hbl)
  replace R5 := Lib.hid (R5.out.below hbl)
  replace HN5 := Lib.hid (HN5.out.below hbl)
  replace R6 := Lib.hid (R6.out.below hbl)
  replace HN6 := Lib.hid (HN6.out.below hbl)
  replace HW := Lib.hid (bel_trans HW.out hbl); clear hbl
  by_cases hfit : a * 2 ^ m < Top
  · have HF := Lib.hid hfit; clear hfit
    have e4 := (fit_small HF.out).2
    have e4n := (fit_small HF.out).1
    rw [e4n] at R4
    clear e4n
    rw [show fitN (a * 2 ^ m) = a * 2 ^ m from (fit_small HF.out).1]
    go_wp2_with fail
    refine (shift_downS A4 c4 (a * 2 ^ m) m a _ R4.out HF.out (mul_pow_div a m)).mono ?_
    rintro e w7 ⟨v7, rfl, hn7, hbl⟩
    replace RA := Lib.hid (RA.out.below hbl)
    replace T := Lib.hid (T.out.below hbl)
    replace R4 := Lib.hid (R4.out.below hbl)
    replace HN4 := Lib.hid (HN4.out.below hbl)
    replace R5 := Lib.hid (R5.out.below hbl)
    replace HN5 := Lib.hid (HN5.out.below hbl)
    replace R6 := Lib.hid (R6.out.below hbl)
    replace HN6 := Lib.hid (HN6.out.below hbl)
    replace HW := Lib.hid (bel_trans HW.out hbl); clear hbl
    have HN7 := Lib.hid hn7; clear hn7
    obtain ⟨A7, c7, rfl, hc7, hr7⟩ := HN7.out.row
    have R7 := Lib.hid hr7; clear hr7 hc7
    go_wp2_with fail
    refine (same_num _ _ rfl A7 A c7 cap _ R7.out RA.out LA.out).mono ?_
    rintro e w8 ⟨rfl, hbl⟩
    replace RA := Lib.hid (RA.out.below hbl)
    replace T := Lib.hid (T.out.below hbl)
    replace R4 := Lib.hid (R4.out.below hbl)
    replace HN4 := Lib.hid (HN4.out.below hbl)
    replace R5 := Lib.hid (R5.out.below hbl)
    replace HN5 := Lib.hid (HN5.out.below hbl)
    replace R6 := Lib.hid (R6.out.below hbl)
    replace HN6 := Lib.hid (HN6.out.below hbl)
    replace R7 := Lib.hid (R7.out.below hbl)
    replace HN7 := Lib.hid (HN7.out.below hbl)
    replace HW := Lib.hid (bel_trans HW.out hbl); clear hbl
    have Q1 := Lib.hid (lt_top (Nat.div_le_self a (2 ^ m)) LA.out)
    have Q2 := Lib.hid (lt_top (Nat.mod_le a (2 ^ m)) LA.out)
    have Q3 := Lib.hid (two_top (m := m) (by omega))
    go_wp2_with fail
    refine (shift_downS A cap a m (a / 2 ^ m) _ RA.out LA.out rfl).mono ?_
    rintro e w9 ⟨v8, rfl, hn8, hbl⟩
    replace RA := Lib.hid (RA.out.below hbl)
    replace T := Lib.hid (T.out.below hbl)
    replace R4 := Lib.hid (R4.out.below hbl)
    replace HN4 := Lib.hid (HN4.out.below hbl)
    replace R5 := Lib.hid (R5.out.below hbl)
    replace HN5 := Lib.hid (HN5.out.below hbl)
    replace R6 := Lib.hid (R6.out.below hbl)
    replace HN6 := Lib.hid (HN6.out.below hbl)
    replace R7 := Lib.hid (R7.out.below hbl)
    replace HN7 := Lib.hid (HN7.out.below hbl)
    replace HW := Lib.hid (bel_trans HW.out hbl); clear hbl
    have HN8 := Lib.hid hn8; clear hn8
    obtain ⟨A8, c8, rfl, hc8, hr8⟩ := HN8.out.row
    have R8 := Lib.hid hr8; clear hr8 hc8
    go_wp2_with fail
    refine (of_any 1 _ (by decide)).mono ?_
    rintro e w10 ⟨v9, rfl, hn9, hbl⟩
    replace RA := Lib.hid (RA.out.below hbl)
    replace T := Lib.hid (T.out.below hbl)
    replace R4 := Lib.hid (R4.out.below hbl)
    replace HN4 := Lib.hid (HN4.out.below hbl)
    replace R5 := Lib.hid (R5.out.below hbl)
    replace HN5 := Lib.hid (HN5.out.below hbl)
    replace R6 := Lib.hid (R6.out.below hbl)
    replace HN6 := Lib.hid (HN6.out.below hbl)
    replace R7 := Lib.hid (R7.out.below hbl)
    replace HN7 := Lib.hid (HN7.out.below hbl)
    replace R8 := Lib.hid (R8.out.below hbl)
    replace HN8 := Lib.hid (HN8.out.below hbl)
    replace HW := Lib.hid (bel_trans HW.out hbl); clear hbl
    have HN9 := Lib.hid hn9; clear hn9
    obtain ⟨A9, c9, rfl, hc9, hr9⟩ := HN9.out.row
    have R9 := Lib.hid hr9; clear hr9 hc9
    go_wp2_with fail
    refine (shift_upS A9 c9 1 m (2 ^ m) _ R9.out (small_top (by decide)) (Nat.one_mul _) Q3.out).mono ?_
    rintro e w11 ⟨v10, rfl, hn10, hbl⟩
    replace RA := Lib.hid (RA.out.below hbl)
    replace T := Lib.hid (T.out.below hbl)
    replace R4 := Lib.hid (R4.out.below hbl)
    replace HN4 := Lib.hid (HN4.out.below hbl)
    replace R5 := Lib.hid (R5.out.below hbl)
    replace HN5 := Lib.hid (HN5.out.below hbl)
    replace R6 := Lib.hid (R6.out.below hbl)
    replace HN6 := Lib.hid (HN6.out.below hbl)
    replace R7 := Lib.hid (R7.out.below hbl)
    replace HN7 := Lib.hid (HN7.out.below hbl)
    replace R8 := Lib.hid (R8.out.below hbl)
    replace HN8 := Lib.hid (HN8.out.below hbl)
    replace R9 := Lib.hid (R9.out.below hbl)
    replace HN9 := Lib.hid (HN9.out.below hbl)
    replace HW := Lib.hid (bel_trans HW.out hbl); clear hbl
    have HN10 := Lib.hid hn10; clear hn10
    obtain ⟨A10, c10, rfl, hc10, hr10⟩ := HN10.out.row
    have R10 := Lib.hid hr10; clear hr10 hc10
    go_wp2_with fail
    refine (shift_upS A8 c8 (a / 2 ^ m) m (a / 2 ^ m * 2 ^ m) _ R8.out Q1.out rfl (div_pow_top m LA.out)).mono ?_
    rintro e w12 ⟨v11, rfl, hn11, hbl⟩
    replace RA := Lib.hid (RA.out.below hbl)
    replace T := Lib.hid (T.out.below hbl)
    replace R4 := Lib.hid (R4.out.below hbl)
    replace HN4 := Lib.hid (HN4.out.below hbl)
    replace R5 := Lib.hid (R5.out.below hbl)
    replace HN5 := Lib.hid (HN5.out.below hbl)
    replace R6 := Lib.hid (R6.out.below hbl)
    replace HN6 := Lib.hid (HN6.out.below hbl)
    replace R7 := Lib.hid (R7.out.below hbl)
    replace HN7 := Lib.hid (HN7.out.below hbl)
    replace R8 := Lib.hid (R8.out.below hbl)
    replace HN8 := Lib.hid (HN8.out.below hbl)
    replace R9 := Lib.hid (R9.out.below hbl)
    replace HN9 := Lib.hid (HN9.out.below hbl)
    replace R10 := Lib.hid (R10.out.below hbl)
    replace HN10 := Lib.hid (HN10.out.below hbl)
    replace HW := Lib.hid (bel_trans HW.out hbl); clear hbl
    have HN11 := Lib.hid hn11; clear hn11
    obtain ⟨A11, c11, rfl, hc11, hr11⟩ := HN11.out.row
    have R11 := Lib.hid hr11; clear hr11 hc11
    go_wp2_with fail
    refine (div_num A A10 cap c10 a (2 ^ m) _ RA.out R10.out LA.out Q3.out (pow_ne m)).mono ?_
    rintro e w13 ⟨v12, v13, rfl, hn12, hn13, hbl⟩
    replace RA := Lib.hid (RA.out.below hbl)
    replace T := Lib.hid (T.out.below hbl)
    replace R4 := Lib.hid (R4.out.below hbl)
    replace HN4 := Lib.hid (HN4.out.below hbl)
    replace R5 := Lib.hid (R5.out.below hbl)
    replace HN5 := Lib.hid (HN5.out.below hbl)
    replace R6 := Lib.hid (R6.out.below hbl)
    replace HN6 := Lib.hid (HN6.out.below hbl)
    replace R7 := Lib.hid (R7.out.below hbl)
    replace HN7 := Lib.hid (HN7.out.below hbl)
    replace R8 := Lib.hid (R8.out.below hbl)
    replace HN8 := Lib.hid (HN8.out.below hbl)
    replace R9 := Lib.hid (R9.out.below hbl)
    replace HN9 := Lib.hid (HN9.out.below hbl)
    replace R10 := Lib.hid (R10.out.below hbl)
    replace HN10 := Lib.hid (HN10.out.below hbl)
    replace R11 := Lib.hid (R11.out.below hbl)
    replace HN11 := Lib.hid (HN11.out.below hbl)
    replace HW := Lib.hid (bel_trans HW.out hbl); clear hbl
    have HN12 := Lib.hid hn12; clear hn12
    obtain ⟨A12, c12, rfl, hc12, hr12⟩ := HN12.out.row
    have R12 := Lib.hid hr12; clear hr12 hc12
    have HN13 := Lib.hid hn13; clear hn13
    obtain ⟨A13, c13, rfl, hc13, hr13⟩ := HN13.out.row
    have R13 := Lib.hid hr13; clear hr13 hc13
    go_wp2_with fail
    refine (add_small A11 A13 c11 c13 (a / 2 ^ m * 2 ^ m) (a % 2 ^ m) a _ R11.out R13.out (div_pow_top m LA.out) Q2.out (div_add_eq a (2 ^ m)) LA.out).mono ?_
    rintro e w14 ⟨v14, rfl, hn14, hbl⟩
    replace RA := Lib.hid (RA.out.below hbl)
    replace T := Lib.hid (T.out.below hbl)
    replace R4 := Lib.hid (R4.out.below hbl)
    replace HN4 := Lib.hid (HN4.out.below hbl)
    replace R5 := Lib.hid (R5.out.below hbl)
    replace HN5 := Lib.hid (HN5.out.below hbl)
    replace R6 := Lib.hid (R6.out.below hbl)
    replace HN6 := Lib.hid (HN6.out.below hbl)
    replace R7 := Lib.hid (R7.out.below hbl)
    replace HN7 := Lib.hid (HN7.out.below hbl)
    replace R8 := Lib.hid (R8.out.below hbl)
    replace HN8 := Lib.hid (HN8.out.below hbl)
    replace R9 := Lib.hid (R9.out.below hbl)
    replace HN9 := Lib.hid (HN9.out.below hbl)
    replace R10 := Lib.hid (R10.out.below hbl)
    replace HN10 := Lib.hid (HN10.out.below hbl)
    replace R11 := Lib.hid (R11.out.below hbl)
    replace HN11 := Lib.hid (HN11.out.below hbl)
    replace R12 := Lib.hid (R12.out.below hbl)
    replace HN12 := Lib.hid (HN12.out.below hbl)
    replace R13 := Lib.hid (R13.out.below hbl)
    replace HN13 := Lib.hid (HN13.out.below hbl)
    replace HW := Lib.hid (bel_trans HW.out hbl); clear hbl
    have HN14 := Lib.hid hn14; clear hn14
    obtain ⟨A14, c14, rfl, hc14, hr14⟩ := HN14.out.row
    have R14 := Lib.hid hr14; clear hr14 hc14
    go_wp2_with fail
    refine (same_num _ _ rfl A12 A8 c12 c8 _ R12.out R8.out Q1.out).mono ?_
    rintro e w15 ⟨rfl, hbl⟩
    replace RA := Lib.hid (RA.out.below hbl)
    replace T := Lib.hid (T.out.below hbl)
    replace R4 := Lib.hid (R4.out.below hbl)
    replace HN4 := Lib.hid (HN4.out.below hbl)
    replace R5 := Lib.hid (R5.out.below hbl)
    replace HN5 := Lib.hid (HN5.out.below hbl)
    replace R6 := Lib.hid (R6.out.below hbl)
    replace HN6 := Lib.hid (HN6.out.below hbl)
    replace R7 := Lib.hid (R7.out.below hbl)
    replace HN7 := Lib.hid (HN7.out.below hbl)
    replace R8 := Lib.hid (R8.out.below hbl)
    replace HN8 := Lib.hid (HN8.out.below hbl)
    replace R9 := Lib.hid (R9.out.below hbl)
    replace HN9 := Lib.hid (HN9.out.below hbl)
    replace R10 := Lib.hid (R10.out.below hbl)
    replace HN10 := Lib.hid (HN10.out.below hbl)
    replace R11 := Lib.hid (R11.out.below hbl)
    replace HN11 := Lib.hid (HN11.out.below hbl)
    replace R12 := Lib.hid (R12.out.below hbl)
    replace HN12 := Lib.hid (HN12.out.below hbl)
    replace R13 := Lib.hid (R13.out.below hbl)
    replace HN13 := Lib.hid (HN13.out.below hbl)
    replace R14 := Lib.hid (R14.out.below hbl)
    replace HN14 := Lib.hid (HN14.out.below hbl)
    replace HW := Lib.hid (bel_trans HW.out hbl); clear hbl
    go_wp2_with fail
    refine (same_num _ _ rfl A14 A c14 cap _ R14.out RA.out LA.out).mono ?_
    rintro e w16 ⟨rfl, hbl⟩
    replace RA := Lib.hid (RA.out.below hbl)
    replace T := Lib.hid (T.out.below hbl)
    replace R4 := Lib.hid (R4.out.below hbl)
    replace HN4 := Lib.hid (HN4.out.below hbl)
    replace R5 := Lib.hid (R5.out.below hbl)
    replace HN5 := Lib.hid (HN5.out.below hbl)
    replace R6 := Lib.hid (R6.out.below hbl)
    replace HN6 := Lib.hid (HN6.out.below hbl)
    replace R7 := Lib.hid (R7.out.below hbl)
    replace HN7 := Lib.hid (HN7.out.below hbl)
    replace R8 := Lib.hid (R8.out.below hbl)
    replace HN8 := Lib.hid (HN8.out.below hbl)
    replace R9 := Lib.hid (R9.out.below hbl)
    replace HN9 := Lib.hid (HN9.out.below hbl)
    replace R10 := Lib.hid (R10.out.below hbl)
    replace HN10 := Lib.hid (HN10.out.below hbl)
    replace R11 := Lib.hid (R11.out.below hbl)
    replace HN11 := Lib.hid (HN11.out.below hbl)
    replace R12 := Lib.hid (R12.out.below hbl)
    replace HN12 := Lib.hid (HN12.out.below hbl)
    replace R13 := Lib.hid (R13.out.below hbl)
    replace HN13 := Lib.hid (HN13.out.below hbl)
    replace R14 := Lib.hid (R14.out.below hbl)
    replace HN14 := Lib.hid (HN14.out.below hbl)
    replace HW := Lib.hid (bel_trans HW.out hbl); clear hbl
    go_wp2
    go_ret
    exact ⟨rfl, HW.out⟩
  · have HF := Lib.hid hfit; clear hfit
    have e4 := (fit_over HF.out).2
    have Q1 := Lib.hid (lt_top (Nat.div_le_self a (2 ^ m)) LA.out)
    have Q2 := Lib.hid (lt_top (Nat.mod_le a (2 ^ m)) LA.out)
    have Q3 := Lib.hid (two_top (m := m) (by omega))
    go_wp2_with fail
    refine (shift_downS A cap a m (a / 2 ^ m) _ RA.out LA.out rfl).mono ?_
    rintro e w7 ⟨v8, rfl, hn8, hbl⟩
    replace RA := Lib.hid (RA.out.below hbl)
    replace T := Lib.hid (T.out.below hbl)
    replace R4 := Lib.hid (R4.out.below hbl)
    replace HN4 := Lib.hid (HN4.out.below hbl)
    replace R5 := Lib.hid (R5.out.below hbl)
    replace HN5 := Lib.hid (HN5.out.below hbl)
    replace R6 := Lib.hid (R6.out.below hbl)
    replace HN6 := Lib.hid (HN6.out.below hbl)
    replace HW := Lib.hid (bel_trans HW.out hbl); clear hbl
    have HN8 := Lib.hid hn8; clear hn8
    obtain ⟨A8, c8, rfl, hc8, hr8⟩ := HN8.out.row
    have R8 := Lib.hid hr8; clear hr8 hc8
    go_wp2_with fail
    refine (of_any 1 _ (by decide)).mono ?_
    rintro e w8 ⟨v9, rfl, hn9, hbl⟩
    replace RA := Lib.hid (RA.out.below hbl)
    replace T := Lib.hid (T.out.below hbl)
    replace R4 := Lib.hid (R4.out.below hbl)
    replace HN4 := Lib.hid (HN4.out.below hbl)
    replace R5 := Lib.hid (R5.out.below hbl)
    replace HN5 := Lib.hid (HN5.out.below hbl)
    replace R6 := Lib.hid (R6.out.below hbl)
    replace HN6 := Lib.hid (HN6.out.below hbl)
    replace R8 := Lib.hid (R8.out.below hbl)
    replace HN8 := Lib.hid (HN8.out.below hbl)
    replace HW := Lib.hid (bel_trans HW.out hbl); clear hbl
    have HN9 := Lib.hid hn9; clear hn9
    obtain ⟨A9, c9, rfl, hc9, hr9⟩ := HN9.out.row
    have R9 := Lib.hid hr9; clear hr9 hc9
    go_wp2_with fail
    refine (shift_upS A9 c9 1 m (2 ^ m) _ R9.out (small_top (by decide)) (Nat.one_mul _) Q3.out).mono ?_
    rintro e w9 ⟨v10, rfl, hn10, hbl⟩
    replace RA := Lib.hid (RA.out.below hbl)
    replace T := Lib.hid (T.out.below hbl)
    replace R4 := Lib.hid (R4.out.below hbl)
    replace HN4 := Lib.hid (HN4.out.below hbl)
    replace R5 := Lib.hid (R5.out.below hbl)
    replace HN5 := Lib.hid (HN5.out.below hbl)
    replace R6 := Lib.hid (R6.out.below hbl)
    replace HN6 := Lib.hid (HN6.out.below hbl)
    replace R8 := Lib.hid (R8.out.below hbl)
    replace HN8 := Lib.hid (HN8.out.below hbl)
    replace R9 := Lib.hid (R9.out.below hbl)
    replace HN9 := Lib.hid (HN9.out.below hbl)
    replace HW := Lib.hid (bel_trans HW.out hbl); clear hbl
    have HN10 := Lib.hid hn10; clear hn10
    obtain ⟨A10, c10, rfl, hc10, hr10⟩ := HN10.out.row
    have R10 := Lib.hid hr10; clear hr10 hc10
    go_wp2_with fail
    refine (shift_upS A8 c8 (a / 2 ^ m) m (a / 2 ^ m * 2 ^ m) _ R8.out Q1.out rfl (div_pow_top m LA.out)).mono ?_
    rintro e w10 ⟨v11, rfl, hn11, hbl⟩
    replace RA := Lib.hid (RA.out.below hbl)
    replace T := Lib.hid (T.out.below hbl)
    replace R4 := Lib.hid (R4.out.below hbl)
    replace HN4 := Lib.hid (HN4.out.below hbl)
    replace R5 := Lib.hid (R5.out.below hbl)
    replace HN5 := Lib.hid (HN5.out.below hbl)
    replace R6 := Lib.hid (R6.out.below hbl)
    replace HN6 := Lib.hid (HN6.out.below hbl)
    replace R8 := Lib.hid (R8.out.below hbl)
    replace HN8 := Lib.hid (HN8.out.below hbl)
    replace R9 := Lib.hid (R9.out.below hbl)
    replace HN9 := Lib.hid (HN9.out.below hbl)
    replace R10 := Lib.hid (R10.out.below hbl)
    replace HN10 := Lib.hid (HN10.out.below hbl)
    replace HW := Lib.hid (bel_trans HW.out hbl); clear hbl
    have HN11 := Lib.hid hn11; clear hn11
    obtain ⟨A11, c11, rfl, hc11, hr11⟩ := HN11.out.row
    have R11 := Lib.hid hr11; clear hr11 hc11
    go_wp2_with fail
    refine (div_num A A10 cap c10 a (2 ^ m) _ RA.out R10.out LA.out Q3.out (pow_ne m)).mono ?_
    rintro e w11 ⟨v12, v13, rfl, hn12, hn13, hbl⟩
    replace RA := Lib.hid (RA.out.below hbl)
    replace T := Lib.hid (T.out.below hbl)
    replace R4 := Lib.hid (R4.out.below hbl)
    replace HN4 := Lib.hid (HN4.out.below hbl)
    replace R5 := Lib.hid (R5.out.below hbl)
    replace HN5 := Lib.hid (HN5.out.below hbl)
    replace R6 := Lib.hid (R6.out.below hbl)
    replace HN6 := Lib.hid (HN6.out.below hbl)
    replace R8 := Lib.hid (R8.out.below hbl)
    replace HN8 := Lib.hid (HN8.out.below hbl)
    replace R9 := Lib.hid (R9.out.below hbl)
    replace HN9 := Lib.hid (HN9.out.below hbl)
    replace R10 := Lib.hid (R10.out.below hbl)
    replace HN10 := Lib.hid (HN10.out.below hbl)
    replace R11 := Lib.hid (R11.out.below hbl)
    replace HN11 := Lib.hid (HN11.out.below hbl)
    replace HW := Lib.hid (bel_trans HW.out hbl); clear hbl
    have HN12 := Lib.hid hn12; clear hn12
    obtain ⟨A12, c12, rfl, hc12, hr12⟩ := HN12.out.row
    have R12 := Lib.hid hr12; clear hr12 hc12
    have HN13 := Lib.hid hn13; clear hn13
    obtain ⟨A13, c13, rfl, hc13, hr13⟩ := HN13.out.row
    have R13 := Lib.hid hr13; clear hr13 hc13
    go_wp2_with fail
    refine (add_small A11 A13 c11 c13 (a / 2 ^ m * 2 ^ m) (a % 2 ^ m) a _ R11.out R13.out (div_pow_top m LA.out) Q2.out (div_add_eq a (2 ^ m)) LA.out).mono ?_
    rintro e w12 ⟨v14, rfl, hn14, hbl⟩
    replace RA := Lib.hid (RA.out.below hbl)
    replace T := Lib.hid (T.out.below hbl)
    replace R4 := Lib.hid (R4.out.below hbl)
    replace HN4 := Lib.hid (HN4.out.below hbl)
    replace R5 := Lib.hid (R5.out.below hbl)
    replace HN5 := Lib.hid (HN5.out.below hbl)
    replace R6 := Lib.hid (R6.out.below hbl)
    replace HN6 := Lib.hid (HN6.out.below hbl)
    replace R8 := Lib.hid (R8.out.below hbl)
    replace HN8 := Lib.hid (HN8.out.below hbl)
    replace R9 := Lib.hid (R9.out.below hbl)
    replace HN9 := Lib.hid (HN9.out.below hbl)
    replace R10 := Lib.hid (R10.out.below hbl)
    replace HN10 := Lib.hid (HN10.out.below hbl)
    replace R11 := Lib.hid (R11.out.below hbl)
    replace HN11 := Lib.hid (HN11.out.below hbl)
    replace R12 := Lib.hid (R12.out.below hbl)
    replace HN12 := Lib.hid (HN12.out.below hbl)
    replace R13 := Lib.hid (R13.out.below hbl)
    replace HN13 := Lib.hid (HN13.out.below hbl)
    replace HW := Lib.hid (bel_trans HW.out hbl); clear hbl
    have HN14 := Lib.hid hn14; clear hn14
    obtain ⟨A14, c14, rfl, hc14, hr14⟩ := HN14.out.row
    have R14 := Lib.hid hr14; clear hr14 hc14
    go_wp2_with fail
    refine (same_num _ _ rfl A12 A8 c12 c8 _ R12.out R8.out Q1.out).mono ?_
    rintro e w13 ⟨rfl, hbl⟩
    replace RA := Lib.hid (RA.out.below hbl)
    replace T := Lib.hid (T.out.below hbl)
    replace R4 := Lib.hid (R4.out.below hbl)
    replace HN4 := Lib.hid (HN4.out.below hbl)
    replace R5 := Lib.hid (R5.out.below hbl)
    replace HN5 := Lib.hid (HN5.out.below hbl)
    replace R6 := Lib.hid (R6.out.below hbl)
    replace HN6 := Lib.hid (HN6.out.below hbl)
    replace R8 := Lib.hid (R8.out.below hbl)
    replace HN8 := Lib.hid (HN8.out.below hbl)
    replace R9 := Lib.hid (R9.out.below hbl)
    replace HN9 := Lib.hid (HN9.out.below hbl)
    replace R10 := Lib.hid (R10.out.below hbl)
    replace HN10 := Lib.hid (HN10.out.below hbl)
    replace R11 := Lib.hid (R11.out.below hbl)
    replace HN11 := Lib.hid (HN11.out.below hbl)
    replace R12 := Lib.hid (R12.out.below hbl)
    replace HN12 := Lib.hid (HN12.out.below hbl)
    replace R13 := Lib.hid (R13.out.below hbl)
    replace HN13 := Lib.hid (HN13.out.below hbl)
    replace R14 := Lib.hid (R14.out.below hbl)
    replace HN14 := Lib.hid (HN14.out.below hbl)
    replace HW := Lib.hid (bel_trans HW.out hbl); clear hbl
    go_wp2_with fail
    refine (same_num _ _ rfl A14 A c14 cap _ R14.out RA.out LA.out).mono ?_
    rintro e w14 ⟨rfl, hbl⟩
    replace RA := Lib.hid (RA.out.below hbl)
    replace T := Lib.hid (T.out.below hbl)
    replace R4 := Lib.hid (R4.out.below hbl)
    replace HN4 := Lib.hid (HN4.out.below hbl)
    replace R5 := Lib.hid (R5.out.below hbl)
    replace HN5 := Lib.hid (HN5.out.below hbl)
    replace R6 := Lib.hid (R6.out.below hbl)
    replace HN6 := Lib.hid (HN6.out.below hbl)
    replace R8 := Lib.hid (R8.out.below hbl)
    replace HN8 := Lib.hid (HN8.out.below hbl)
    replace R9 := Lib.hid (R9.out.below hbl)
    replace HN9 := Lib.hid (HN9.out.below hbl)
    replace R10 := Lib.hid (R10.out.below hbl)
    replace HN10 := Lib.hid (HN10.out.below hbl)
    replace R11 := Lib.hid (R11.out.below hbl)
    replace HN11 := Lib.hid (HN11.out.below hbl)
    replace R12 := Lib.hid (R12.out.below hbl)
    replace HN12 := Lib.hid (HN12.out.below hbl)
    replace R13 := Lib.hid (R13.out.below hbl)
    replace HN13 := Lib.hid (HN13.out.below hbl)
    replace R14 := Lib.hid (R14.out.below hbl)
    replace HN14 := Lib.hid (HN14.out.below hbl)
    replace HW := Lib.hid (bel_trans HW.out hbl); clear hbl
    go_wp2
    go_ret
    exact ⟨rfl, HW.out⟩

theorem law_shifts (A : Option Addr) (cap : Nat) (x0 : List Nat) (i : Int) (w : World) (h : RdL w A x0) (hc : x0.length ≤ cap) (ht : Bases w) (hx : Lim x0) :
    Calls Tryd.prog 7 #[.slice A x0.length cap, .int .i64 i] w (RetT w) := by
  cases hr : rightL (few x0)
  · exact shifts_wrong A cap x0 i w h hc ht hx hr
  · obtain ⟨a, ha, ha2⟩ := right_num (few_lim hx) hr
    exact shifts_right A cap x0 i a w h hc ht ha ha2
end Go.Proofs.YtmbbdjpnecjleaaDoor
