/-
  The law NatParts, walked.
-/
import Derived.Test.YtmbbdjpnecjleaaDoorNLaw4
namespace Go.Proofs.YtmbbdjpnecjleaaDoor
open Go.RowKit

set_option maxRecDepth 100000 in
set_option maxHeartbeats 1000000 in
theorem parts_wrong (A A' : Option Addr) (cap cap' : Nat) (x0 y0 : List Nat) (i : Int) (w : World) (h : RdL w A x0) (h' : RdL w A' y0) (hc : x0.length ≤ cap) (hc' : y0.length ≤ cap') (ht : Bases w) (hx : Lim x0) (hr : rightL (few x0) = false) :
    Calls Tryd.prog 4 #[.slice A x0.length cap, .slice A' y0.length cap', .int .i64 i] w (RetT w) := by
  have RA := Lib.hid (show RdL w A (few x0) from h.take 18); clear h
  have RB := Lib.hid (show RdL w A' (few y0) from h'.take 18); clear h'
  have T := Lib.hid ht; clear ht
  have HX := Lib.hid (few_lim hx); clear hx
  have l1 := few_le x0
  have l2 := few_le y0
  obtain ⟨xs, hxs⟩ : ∃ xs, few x0 = xs := ⟨_, rfl⟩
  obtain ⟨ys, hys⟩ : ∃ ys, few y0 = ys := ⟨_, rfl⟩
  rw [hxs] at RA HX l1 hr
  rw [hys] at RB l2
  have F1 := Lib.hid (And.intro hc hxs); clear hc hxs
  have F2 := Lib.hid (And.intro hc' hys); clear hc' hys
  have HR := Lib.hid hr; clear hr
  have HW := Lib.hid (bel_refl w)
  go_enter Tryd.func4, Tryd.ntmps4
  go_wp2_with fail
  refine (few_is A cap x0 xs _ F1.out.1 F1.out.2).mono ?_
  rintro e w1 ⟨rfl, hbl⟩
  replace RA := Lib.hid (RA.out.below hbl)
  replace RB := Lib.hid (RB.out.below hbl)
  replace T := Lib.hid (T.out.below hbl)
  replace HW := Lib.hid (bel_trans HW.out hbl); clear hbl
  go_wp2_with fail
  refine (few_is A' cap' y0 ys _ F2.out.1 F2.out.2).mono ?_
  rintro e w2 ⟨rfl, hbl⟩
  replace RA := Lib.hid (RA.out.below hbl)
  replace RB := Lib.hid (RB.out.below hbl)
  replace T := Lib.hid (T.out.below hbl)
  replace HW := Lib.hid (bel_trans HW.out hbl); clear hbl
  go_wp2_with fail
  refine (div_bad A A' cap cap' xs ys _ RA.out RB.out l1 l2 (by rw [HR.out, Bool.false_and])).mono ?_
  rintro e w3 ⟨vq, vr, rfl, hnq, hnr, hbl⟩
  replace RA := Lib.hid (RA.out.below hbl)
  replace RB := Lib.hid (RB.out.below hbl)
  replace T := Lib.hid (T.out.below hbl)
  replace HW := Lib.hid (bel_trans HW.out hbl); clear hbl
  have HNq := Lib.hid hnq; clear hnq
  obtain ⟨Aq, cq, rfl, hcq, hrq⟩ := HNq.out.row
  have Rq := Lib.hid hrq; clear hrq hcq
  have HNr := Lib.hid hnr; clear hnr
  obtain ⟨Ar, cr, rfl, hcr, hrr⟩ := HNr.out.row
  have Rr := Lib.hid hrr; clear hrr hcr
  rw [limbs0]
  go_wp2_with fail
  refine (shift_bad A cap xs _ _ RA.out HX.out l1 HR.out).mono ?_
  rintro e w4 ⟨vs, rfl, hns, hbl⟩
  replace RA := Lib.hid (RA.out.below hbl)
  replace RB := Lib.hid (RB.out.below hbl)
  replace T := Lib.hid (T.out.below hbl)
  replace Rq := Lib.hid (Rq.out.below hbl)
  replace HNq := Lib.hid (HNq.out.below hbl)
  replace Rr := Lib.hid (Rr.out.below hbl)
  replace HNr := Lib.hid (HNr.out.below hbl)
  replace HW := Lib.hid (bel_trans HW.out hbl); clear hbl
  have HNs := Lib.hid hns; clear hns
  obtain ⟨As, cs, rfl, hcs, hrs⟩ := HNs.out.row
  have Rs := Lib.hid hrs; clear hrs hcs
  rw [limbs0]
  go_wp2_with fail
  refine (bits_wrong A cap xs _ RA.out HX.out l1 HR.out).mono ?_
  rintro e w5 ⟨rfl, hbl⟩
  replace RA := Lib.hid (RA.out.below hbl)
  replace RB := Lib.hid (RB.out.below hbl)
  replace T := Lib.hid (T.out.below hbl)
  replace Rq := Lib.hid (Rq.out.below hbl)
  replace HNq := Lib.hid (HNq.out.below hbl)
  replace Rr := Lib.hid (Rr.out.below hbl)
  replace HNr := Lib.hid (HNr.out.below hbl)
  replace Rs := Lib.hid (Rs.out.below hbl)
  replace HNs := Lib.hid (HNs.out.below hbl)
  replace HW := Lib.hid (bel_trans HW.out hbl); clear hbl
  go_wp2_with fail
  refine (refRight_bb A cap xs _ RA.out l1).mono ?_
  rintro e w6 ⟨rfl, hbl⟩
  replace RA := Lib.hid (RA.out.below hbl)
  replace RB := Lib.hid (RB.out.below hbl)
  replace T := Lib.hid (T.out.below hbl)
  replace Rq := Lib.hid (Rq.out.below hbl)
  replace HNq := Lib.hid (HNq.out.below hbl)
  replace Rr := Lib.hid (Rr.out.below hbl)
  replace HNr := Lib.hid (HNr.out.below hbl)
  replace Rs := Lib.hid (Rs.out.below hbl)
  replace HNs := Lib.hid (HNs.out.below hbl)
  replace HW := Lib.hid (bel_trans HW.out hbl); clear hbl
  rw [HR.out]
  go_wp2_with fail
  refine (alive_any _ T.out).mono ?_
  rintro e w7 ⟨rfl, hbl⟩
  replace RA := Lib.hid (RA.out.below hbl)
  replace RB := Lib.hid (RB.out.below hbl)
  replace T := Lib.hid (T.out.below hbl)
  replace Rq := Lib.hid (Rq.out.below hbl)
  replace HNq := Lib.hid (HNq.out.below hbl)
  replace Rr := Lib.hid (Rr.out.below hbl)
  replace HNr := Lib.hid (HNr.out.below hbl)
  replace Rs := Lib.hid (Rs.out.below hbl)
  replace HNs := Lib.hid (HNs.out.below hbl)
  replace HW := Lib.hid (bel_trans HW.out hbl); clear hbl
  go_wp2
  go_ret
  exact ⟨rfl, HW.out⟩

set_option maxRecDepth 100000 in
set_option maxHeartbeats 1000000 in
theorem parts_wrong_nila (A A' : Option Addr) (cap cap' : Nat) (x0 y0 : List Nat) (i : Int) (a : Nat) (w : World) (h : RdL w A x0) (h' : RdL w A' y0) (hc : x0.length ≤ cap) (hc' : y0.length ≤ cap') (ht : Bases w) (ha : few x0 = limbs a) (ha2 : a < Top) (hr : rightL (few y0) = false) (ha0 : a = 0) (hi : 600 < i) :
    Calls Tryd.prog 4 #[.slice A x0.length cap, .slice A' y0.length cap', .int .i64 i] w (RetT w) := by
  have RA := Lib.hid (show RdL w A (few x0) from h.take 18); clear h
  have RB := Lib.hid (show RdL w A' (few y0) from h'.take 18); clear h'
  have T := Lib.hid ht; clear ht
  rw [ha] at RA
  have F1 := Lib.hid (And.intro hc ha); clear hc ha
  have LA := Lib.hid ha2; clear ha2
  have l2 := few_le y0
  obtain ⟨ys, hys⟩ : ∃ ys, few y0 = ys := ⟨_, rfl⟩
  rw [hys] at RB l2 hr
  have F2 := Lib.hid (And.intro hc' hys); clear hc' hys
  have HR := Lib.hid hr; clear hr
  have HW := Lib.hid (bel_refl w)
  have HA0 := Lib.hid ha0; clear ha0
  go_enter Tryd.func4, Tryd.ntmps4
  go_wp2_with fail
  refine (few_is A cap x0 (limbs a) _ F1.out.1 F1.out.2).mono ?_
  rintro e w1 ⟨rfl, hbl⟩
  replace RA := Lib.hid (RA.out.below hbl)
  replace RB := Lib.hid (RB.out.below hbl)
  replace T := Lib.hid (T.out.below hbl)
  replace HW := Lib.hid (bel_trans HW.out hbl); clear hbl
  go_wp2_with fail
  refine (few_is A' cap' y0 ys _ F2.out.1 F2.out.2).mono ?_
  rintro e w2 ⟨rfl, hbl⟩
  replace RA := Lib.hid (RA.out.below hbl)
  replace RB := Lib.hid (RB.out.below hbl)
  replace T := Lib.hid (T.out.below hbl)
  replace HW := Lib.hid (bel_trans HW.out hbl); clear hbl
  go_wp2_with fail
  refine (div_bad A A' cap cap' (limbs a) ys _ RA.out RB.out (len18 LA.out) l2 (by rw [HR.out, Bool.and_false])).mono ?_
  rintro e w3 ⟨vq, vr, rfl, hnq, hnr, hbl⟩
  replace RA := Lib.hid (RA.out.below hbl)
  replace RB := Lib.hid (RB.out.below hbl)
  replace T := Lib.hid (T.out.below hbl)
  replace HW := Lib.hid (bel_trans HW.out hbl); clear hbl
  have HNq := Lib.hid hnq; clear hnq
  obtain ⟨Aq, cq, rfl, hcq, hrq⟩ := HNq.out.row
  have Rq := Lib.hid hrq; clear hrq hcq
  have HNr := Lib.hid hnr; clear hnr
  obtain ⟨Ar, cr, rfl, hcr, hrr⟩ := HNr.out.row
  have Rr := Lib.hid hrr; clear hrr hcr
  rw [limbs0]
  go_wp2_with fail
  refine (shift_zero A cap a i _ RA.out LA.out HA0.out).mono ?_
  rintro e w4 ⟨vs, rfl, hns, hbl⟩
  replace RA := Lib.hid (RA.out.below hbl)
  replace RB := Lib.hid (RB.out.below hbl)
  replace T := Lib.hid (T.out.below hbl)
  replace Rq := Lib.hid (Rq.out.below hbl)
  replace HNq := Lib.hid (HNq.out.below hbl)
  replace Rr := Lib.hid (Rr.out.below hbl)
  replace HNr := Lib.hid (HNr.out.below hbl)
  replace HW := Lib.hid (bel_trans HW.out hbl); clear hbl
  have HNs := Lib.hid hns; clear hns
  obtain ⟨As, cs, rfl, hcs, hrs⟩ := HNs.out.row
  have Rs := Lib.hid hrs; clear hrs hcs
  rw [limbs0]
  go_wp2_with fail
  refine (bits_none A cap a _ RA.out LA.out HA0.out).mono ?_
  rintro e w5 ⟨rfl, hbl⟩
  replace RA := Lib.hid (RA.out.below hbl)
  replace RB := Lib.hid (RB.out.below hbl)
  replace T := Lib.hid (T.out.below hbl)
  replace Rq := Lib.hid (Rq.out.below hbl)
  replace HNq := Lib.hid (HNq.out.below hbl)
  replace Rr := Lib.hid (Rr.out.below hbl)
  replace HNr := Lib.hid (HNr.out.below hbl)
  replace Rs := Lib.hid (Rs.out.below hbl)
  replace HNs := Lib.hid (HNs.out.below hbl)
  replace HW := Lib.hid (bel_trans HW.out hbl); clear hbl
  go_wp2_with fail
  refine (refRightR LA.out A cap _ RA.out).mono ?_
  rintro e w6 ⟨rfl, hbl⟩
  replace RA := Lib.hid (RA.out.below hbl)
  replace RB := Lib.hid (RB.out.below hbl)
  replace T := Lib.hid (T.out.below hbl)
  replace Rq := Lib.hid (Rq.out.below hbl)
  replace HNq := Lib.hid (HNq.out.below hbl)
  replace Rr := Lib.hid (Rr.out.below hbl)
  replace HNr := Lib.hid (HNr.out.below hbl)
  replace Rs := Lib.hid (Rs.out.below hbl)
  replace HNs := Lib.hid (HNs.out.below hbl)
  replace HW := Lib.hid (bel_trans HW.out hbl); clear hbl
  go_wp2_with fail
  refine (text_num A cap a _ RA.out LA.out).mono ?_
  rintro e w7 ⟨rfl, hbl⟩
  replace RA := Lib.hid (RA.out.below hbl)
  replace RB := Lib.hid (RB.out.below hbl)
  replace T := Lib.hid (T.out.below hbl)
  replace Rq := Lib.hid (Rq.out.below hbl)
  replace HNq := Lib.hid (HNq.out.below hbl)
  replace Rr := Lib.hid (Rr.out.below hbl)
  replace HNr := Lib.hid (HNr.out.below hbl)
  replace Rs := Lib.hid (Rs.out.below hbl)
  replace HNs := Lib.hid (HNs.out.below hbl)
  replace HW := Lib.hid (bel_trans HW.out hbl); clear hbl
  go_wp2_with fail
  refine (power_is 0 1 _ rfl (by decide)).mono ?_
  rintro e w8 ⟨rfl, hbl⟩
  replace RA := Lib.hid (RA.out.below hbl)
  replace RB := Lib.hid (RB.out.below hbl)
  replace T := Lib.hid (T.out.below hbl)
  replace Rq := Lib.hid (Rq.out.below hbl)
  replace HNq := Lib.hid (HNq.out.below hbl)
  replace Rr := Lib.hid (Rr.out.below hbl)
  replace HNr := Lib.hid (HNr.out.below hbl)
  replace Rs := Lib.hid (Rs.out.below hbl)
  replace HNs := Lib.hid (HNs.out.below hbl)
  replace HW := Lib.hid (bel_trans HW.out hbl); clear hbl
  go_wp2_with fail
  refine (refCmp_bb a 1 _).mono ?_
  rintro e w9 ⟨rfl, hbl⟩
  replace RA := Lib.hid (RA.out.below hbl)
  replace RB := Lib.hid (RB.out.below hbl)
  replace T := Lib.hid (T.out.below hbl)
  replace Rq := Lib.hid (Rq.out.below hbl)
  replace HNq := Lib.hid (HNq.out.below hbl)
  replace Rr := Lib.hid (Rr.out.below hbl)
  replace HNr := Lib.hid (HNr.out.below hbl)
  replace Rs := Lib.hid (Rs.out.below hbl)
  replace HNs := Lib.hid (HNs.out.below hbl)
  replace HW := Lib.hid (bel_trans HW.out hbl); clear hbl
  rw [show cmpI (a : Int) ((1 : Nat) : Int) = -1 from cmpI_lt (by have := HA0.out; omega)]
  go_wp2_with fail
  refine (refRight_bb A' cap' ys _ RB.out l2).mono ?_
  rintro e w10 ⟨rfl, hbl⟩
  replace RA := Lib.hid (RA.out.below hbl)
  replace RB := Lib.hid (RB.out.below hbl)
  replace T := Lib.hid (T.out.below hbl)
  replace Rq := Lib.hid (Rq.out.below hbl)
  replace HNq := Lib.hid (HNq.out.below hbl)
  replace Rr := Lib.hid (Rr.out.below hbl)
  replace HNr := Lib.hid (HNr.out.below hbl)
  replace Rs := Lib.hid (Rs.out.below hbl)
  replace HNs := Lib.hid (HNs.out.below hbl)
  replace HW := Lib.hid (bel_trans HW.out hbl); clear hbl
  rw [HR.out]
  go_wp2_with fail
  refine (alive_any _ T.out).mono ?_
  rintro e w11 ⟨rfl, hbl⟩
  replace RA := Lib.hid (RA.out.below hbl)
  replace RB := Lib.hid (RB.out.below hbl)
  replace T := Lib.hid (T.out.below hbl)
  replace Rq := Lib.hid (Rq.out.below hbl)
  replace HNq := Lib.hid (HNq.out.below hbl)
  replace Rr := Lib.hid (Rr.out.below hbl)
  replace HNr := Lib.hid (HNr.out.below hbl)
  replace Rs := Lib.hid (Rs.out.below hbl)
  replace HNs := Lib.hid (HNs.out.below hbl)
  replace HW := Lib.hid (bel_trans HW.out hbl); clear hbl
  go_wp2
  go_ret
  exact ⟨rfl, HW.out⟩

set_option maxRecDepth 100000 in
set_option maxHeartbeats 1000000 in
theorem parts_wrong_nilb (A A' : Option Addr) (cap cap' : Nat) (x0 y0 : List Nat) (i : Int) (a : Nat) (w : World) (h : RdL w A x0) (h' : RdL w A' y0) (hc : x0.length ≤ cap) (hc' : y0.length ≤ cap') (ht : Bases w) (ha : few x0 = limbs a) (ha2 : a < Top) (hr : rightL (few y0) = false) (ha0 : a = 0) (hi : i < -600) :
    Calls Tryd.prog 4 #[.slice A x0.length cap, .slice A' y0.length cap', .int .i64 i] w (RetT w) := by
  have RA := Lib.hid (show RdL w A (few x0) from h.take 18); clear h
  have RB := Lib.hid (show RdL w A' (few y0) from h'.take 18); clear h'
  have T := Lib.hid ht; clear ht
  rw [ha] at RA
  have F1 := Lib.hid (And.intro hc ha); clear hc ha
  have LA := Lib.hid ha2; clear ha2
  have l2 := few_le y0
  obtain ⟨ys, hys⟩ : ∃ ys, few y0 = ys := ⟨_, rfl⟩
  rw [hys] at RB l2 hr
  have F2 := Lib.hid (And.intro hc' hys); clear hc' hys
  have HR := Lib.hid hr; clear hr
  have HW := Lib.hid (bel_refl w)
  have HA0 := Lib.hid ha0; clear ha0
  go_enter Tryd.func4, Tryd.ntmps4
  go_wp2_with fail
  refine (few_is A cap x0 (limbs a) _ F1.out.1 F1.out.2).mono ?_
  rintro e w1 ⟨rfl, hbl⟩
  replace RA := Lib.hid (RA.out.below hbl)
  replace RB := Lib.hid (RB.out.below hbl)
  replace T := Lib.hid (T.out.below hbl)
  replace HW := Lib.hid (bel_trans HW.out hbl); clear hbl
  go_wp2_with fail
  refine (few_is A' cap' y0 ys _ F2.out.1 F2.out.2).mono ?_
  rintro e w2 ⟨rfl, hbl⟩
  replace RA := Lib.hid (RA.out.below hbl)
  replace RB := Lib.hid (RB.out.below hbl)
  replace T := Lib.hid (T.out.below hbl)
  replace HW := Lib.hid (bel_trans HW.out hbl); clear hbl
  go_wp2_with fail
  refine (div_bad A A' cap cap' (limbs a) ys _ RA.out RB.out (len18 LA.out) l2 (by rw [HR.out, Bool.and_false])).mono ?_
  rintro e w3 ⟨vq, vr, rfl, hnq, hnr, hbl⟩
  replace RA := Lib.hid (RA.out.below hbl)
  replace RB := Lib.hid (RB.out.below hbl)
  replace T := Lib.hid (T.out.below hbl)
  replace HW := Lib.hid (bel_trans HW.out hbl); clear hbl
  have HNq := Lib.hid hnq; clear hnq
  obtain ⟨Aq, cq, rfl, hcq, hrq⟩ := HNq.out.row
  have Rq := Lib.hid hrq; clear hrq hcq
  have HNr := Lib.hid hnr; clear hnr
  obtain ⟨Ar, cr, rfl, hcr, hrr⟩ := HNr.out.row
  have Rr := Lib.hid hrr; clear hrr hcr
  rw [limbs0]
  go_wp2_with fail
  refine (shift_zero A cap a i _ RA.out LA.out HA0.out).mono ?_
  rintro e w4 ⟨vs, rfl, hns, hbl⟩
  replace RA := Lib.hid (RA.out.below hbl)
  replace RB := Lib.hid (RB.out.below hbl)
  replace T := Lib.hid (T.out.below hbl)
  replace Rq := Lib.hid (Rq.out.below hbl)
  replace HNq := Lib.hid (HNq.out.below hbl)
  replace Rr := Lib.hid (Rr.out.below hbl)
  replace HNr := Lib.hid (HNr.out.below hbl)
  replace HW := Lib.hid (bel_trans HW.out hbl); clear hbl
  have HNs := Lib.hid hns; clear hns
  obtain ⟨As, cs, rfl, hcs, hrs⟩ := HNs.out.row
  have Rs := Lib.hid hrs; clear hrs hcs
  rw [limbs0]
  go_wp2_with fail
  refine (bits_none A cap a _ RA.out LA.out HA0.out).mono ?_
  rintro e w5 ⟨rfl, hbl⟩
  replace RA := Lib.hid (RA.out.below hbl)
  replace RB := Lib.hid (RB.out.below hbl)
  replace T := Lib.hid (T.out.below hbl)
  replace Rq := Lib.hid (Rq.out.below hbl)
  replace HNq := Lib.hid (HNq.out.below hbl)
  replace Rr := Lib.hid (Rr.out.below hbl)
  replace HNr := Lib.hid (HNr.out.below hbl)
  replace Rs := Lib.hid (Rs.out.below hbl)
  replace HNs := Lib.hid (HNs.out.below hbl)
  replace HW := Lib.hid (bel_trans HW.out hbl); clear hbl
  go_wp2_with fail
  refine (refRightR LA.out A cap _ RA.out).mono ?_
  rintro e w6 ⟨rfl, hbl⟩
  replace RA := Lib.hid (RA.out.below hbl)
  replace RB := Lib.hid (RB.out.below hbl)
  replace T := Lib.hid (T.out.below hbl)
  replace Rq := Lib.hid (Rq.out.below hbl)
  replace HNq := Lib.hid (HNq.out.below hbl)
  replace Rr := Lib.hid (Rr.out.below hbl)
  replace HNr := Lib.hid (HNr.out.below hbl)
  replace Rs := Lib.hid (Rs.out.below hbl)
  replace HNs := Lib.hid (HNs.out.below hbl)
  replace HW := Lib.hid (bel_trans HW.out hbl); clear hbl
  go_wp2_with fail
  refine (text_num A cap a _ RA.out LA.out).mono ?_
  rintro e w7 ⟨rfl, hbl⟩
  replace RA := Lib.hid (RA.out.below hbl)
  replace RB := Lib.hid (RB.out.below hbl)
  replace T := Lib.hid (T.out.below hbl)
  replace Rq := Lib.hid (Rq.out.below hbl)
  replace HNq := Lib.hid (HNq.out.below hbl)
  replace Rr := Lib.hid (Rr.out.below hbl)
  replace HNr := Lib.hid (HNr.out.below hbl)
  replace Rs := Lib.hid (Rs.out.below hbl)
  replace HNs := Lib.hid (HNs.out.below hbl)
  replace HW := Lib.hid (bel_trans HW.out hbl); clear hbl
  go_wp2_with fail
  refine (power_is 0 1 _ rfl (by decide)).mono ?_
  rintro e w8 ⟨rfl, hbl⟩
  replace RA := Lib.hid (RA.out.below hbl)
  replace RB := Lib.hid (RB.out.below hbl)
  replace T := Lib.hid (T.out.below hbl)
  replace Rq := Lib.hid (Rq.out.below hbl)
  replace HNq := Lib.hid (HNq.out.below hbl)
  replace Rr := Lib.hid (Rr.out.below hbl)
  replace HNr := Lib.hid (HNr.out.below hbl)
  replace Rs := Lib.hid (Rs.out.below hbl)
  replace HNs := Lib.hid (HNs.out.below hbl)
  replace HW := Lib.hid (bel_trans HW.out hbl); clear hbl
  go_wp2_with fail
  refine (refCmp_bb a 1 _).mono ?_
  rintro e w9 ⟨rfl, hbl⟩
  replace RA := Lib.hid (RA.out.below hbl)
  replace RB := Lib.hid (RB.out.below hbl)
  replace T := Lib.hid (T.out.below hbl)
  replace Rq := Lib.hid (Rq.out.below hbl)
  replace HNq := Lib.hid (HNq.out.below hbl)
  replace Rr := Lib.hid (Rr.out.below hbl)
  replace HNr := Lib.hid (HNr.out.below hbl)
  replace Rs := Lib.hid (Rs.out.below hbl)
  replace HNs := Lib.hid (HNs.out.below hbl)
  replace HW := Lib.hid (bel_trans HW.out hbl); clear hbl
  rw [show cmpI (a : Int) ((1 : Nat) : Int) = -1 from cmpI_lt (by have := HA0.out; omega)]
  go_wp2_with fail
  refine (refRight_bb A' cap' ys _ RB.out l2).mono ?_
  rintro e w10 ⟨rfl, hbl⟩
  replace RA := Lib.hid (RA.out.below hbl)
  replace RB := Lib.hid (RB.out.below hbl)
  replace T := Lib.hid (T.out.below hbl)
  replace Rq := Lib.hid (Rq.out.below hbl)
  replace HNq := Lib.hid (HNq.out.below hbl)
  replace Rr := Lib.hid (Rr.out.below hbl)
  replace HNr := Lib.hid (HNr.out.below hbl)
  replace Rs := Lib.hid (Rs.out.below hbl)
  replace HNs := Lib.hid (HNs.out.below hbl)
  replace HW := Lib.hid (bel_trans HW.out hbl); clear hbl
  rw [HR.out]
  go_wp2_with fail
  refine (alive_any _ T.out).mono ?_
  rintro e w11 ⟨rfl, hbl⟩
  replace RA := Lib.hid (RA.out.below hbl)
  replace RB := Lib.hid (RB.out.below hbl)
  replace T := Lib.hid (T.out.below hbl)
  replace Rq := Lib.hid (Rq.out.below hbl)
  replace HNq := Lib.hid (HNq.out.below hbl)
  replace Rr := Lib.hid (Rr.out.below hbl)
  replace HNr := Lib.hid (HNr.out.below hbl)
  replace Rs := Lib.hid (Rs.out.below hbl)
  replace HNs := Lib.hid (HNs.out.below hbl)
  replace HW := Lib.hid (bel_trans HW.out hbl); clear hbl
  go_wp2
  go_ret
  exact ⟨rfl, HW.out⟩

set_option maxRecDepth 100000 in
set_option maxHeartbeats 1000000 in
theorem parts_wrong_nilc (A A' : Option Addr) (cap cap' : Nat) (x0 y0 : List Nat) (i : Int) (a : Nat) (w : World) (h : RdL w A x0) (h' : RdL w A' y0) (hc : x0.length ≤ cap) (hc' : y0.length ≤ cap') (ht : Bases w) (ha : few x0 = limbs a) (ha2 : a < Top) (hr : rightL (few y0) = false) (ha0 : a = 0) (hi : ¬ 600 < i) (hi2 : ¬ i < -600) :
    Calls Tryd.prog 4 #[.slice A x0.length cap, .slice A' y0.length cap', .int .i64 i] w (RetT w) := by
  have RA := Lib.hid (show RdL w A (few x0) from h.take 18); clear h
  have RB := Lib.hid (show RdL w A' (few y0) from h'.take 18); clear h'
  have T := Lib.hid ht; clear ht
  rw [ha] at RA
  have F1 := Lib.hid (And.intro hc ha); clear hc ha
  have LA := Lib.hid ha2; clear ha2
  have l2 := few_le y0
  obtain ⟨ys, hys⟩ : ∃ ys, few y0 = ys := ⟨_, rfl⟩
  rw [hys] at RB l2 hr
  have F2 := Lib.hid (And.intro hc' hys); clear hc' hys
  have HR := Lib.hid hr; clear hr
  have HW := Lib.hid (bel_refl w)
  have HA0 := Lib.hid ha0; clear ha0
  go_enter Tryd.func4, Tryd.ntmps4
  go_wp2_with fail
  refine (few_is A cap x0 (limbs a) _ F1.out.1 F1.out.2).mono ?_
  rintro e w1 ⟨rfl, hbl⟩
  replace RA := Lib.hid (RA.out.below hbl)
  replace RB := Lib.hid (RB.out.below hbl)
  replace T := Lib.hid (T.out.below hbl)
  replace HW := Lib.hid (bel_trans HW.out hbl); clear hbl
  go_wp2_with fail
  refine (few_is A' cap' y0 ys _ F2.out.1 F2.out.2).mono ?_
  rintro e w2 ⟨rfl, hbl⟩
  replace RA := Lib.hid (RA.out.below hbl)
  replace RB := Lib.hid (RB.out.below hbl)
  replace T := Lib.hid (T.out.below hbl)
  replace HW := Lib.hid (bel_trans HW.out hbl); clear hbl
  go_wp2_with fail
  refine (div_bad A A' cap cap' (limbs a) ys _ RA.out RB.out (len18 LA.out) l2 (by rw [HR.out, Bool.and_false])).mono ?_
  rintro e w3 ⟨vq, vr, rfl, hnq, hnr, hbl⟩
  replace RA := Lib.hid (RA.out.below hbl)
  replace RB := Lib.hid (RB.out.below hbl)
  replace T := Lib.hid (T.out.below hbl)
  replace HW := Lib.hid (bel_trans HW.out hbl); clear hbl
  have HNq := Lib.hid hnq; clear hnq
  obtain ⟨Aq, cq, rfl, hcq, hrq⟩ := HNq.out.row
  have Rq := Lib.hid hrq; clear hrq hcq
  have HNr := Lib.hid hnr; clear hnr
  obtain ⟨Ar, cr, rfl, hcr, hrr⟩ := HNr.out.row
  have Rr := Lib.hid hrr; clear hrr hcr
  rw [limbs0]
  go_wp2_with fail
  refine (shift_zero A cap a i _ RA.out LA.out HA0.out).mono ?_
  rintro e w4 ⟨vs, rfl, hns, hbl⟩
  replace RA := Lib.hid (RA.out.below hbl)
  replace RB := Lib.hid (RB.out.below hbl)
  replace T := Lib.hid (T.out.below hbl)
  replace Rq := Lib.hid (Rq.out.below hbl)
  replace HNq := Lib.hid (HNq.out.below hbl)
  replace Rr := Lib.hid (Rr.out.below hbl)
  replace HNr := Lib.hid (HNr.out.below hbl)
  replace HW := Lib.hid (bel_trans HW.out hbl); clear hbl
  have HNs := Lib.hid hns; clear hns
  obtain ⟨As, cs, rfl, hcs, hrs⟩ := HNs.out.row
  have Rs := Lib.hid hrs; clear hrs hcs
  rw [limbs0]
  go_wp2_with fail
  refine (bits_none A cap a _ RA.out LA.out HA0.out).mono ?_
  rintro e w5 ⟨rfl, hbl⟩
  replace RA := Lib.hid (RA.out.below hbl)
  replace RB := Lib.hid (RB.out.below hbl)
  replace T := Lib.hid (T.out.below hbl)
  replace Rq := Lib.hid (Rq.out.below hbl)
  replace HNq := Lib.hid (HNq.out.below hbl)
  replace Rr := Lib.hid (Rr.out.below hbl)
  replace HNr := Lib.hid (HNr.out.below hbl)
  replace Rs := Lib.hid (Rs.out.below hbl)
  replace HNs := Lib.hid (HNs.out.below hbl)
  replace HW := Lib.hid (bel_trans HW.out hbl); clear hbl
  go_wp2_with fail
  refine (refRightR LA.out A cap _ RA.out).mono ?_
  rintro e w6 ⟨rfl, hbl⟩
  replace RA := Lib.hid (RA.out.below hbl)
  replace RB := Lib.hid (RB.out.below hbl)
  replace T := Lib.hid (T.out.below hbl)
  replace Rq := Lib.hid (Rq.out.below hbl)
  replace HNq := Lib.hid (HNq.out.below hbl)
  replace Rr := Lib.hid (Rr.out.below hbl)
  replace HNr := Lib.hid (HNr.out.below hbl)
  replace Rs := Lib.hid (Rs.out.below hbl)
  replace HNs := Lib.hid (HNs.out.below hbl)
  replace HW := Lib.hid (bel_trans HW.out hbl); clear hbl
  go_wp2_with fail
  refine (text_num A cap a _ RA.out LA.out).mono ?_
  rintro e w7 ⟨rfl, hbl⟩
  replace RA := Lib.hid (RA.out.below hbl)
  replace RB := Lib.hid (RB.out.below hbl)
  replace T := Lib.hid (T.out.below hbl)
  replace Rq := Lib.hid (Rq.out.below hbl)
  replace HNq := Lib.hid (HNq.out.below hbl)
  replace Rr := Lib.hid (Rr.out.below hbl)
  replace HNr := Lib.hid (HNr.out.below hbl)
  replace Rs := Lib.hid (Rs.out.below hbl)
  replace HNs := Lib.hid (HNs.out.below hbl)
  replace HW := Lib.hid (bel_trans HW.out hbl); clear hbl
  go_wp2_with fail
  refine (power_is 0 1 _ rfl (by decide)).mono ?_
  rintro e w8 ⟨rfl, hbl⟩
  replace RA := Lib.hid (RA.out.below hbl)
  replace RB := Lib.hid (RB.out.below hbl)
  replace T := Lib.hid (T.out.below hbl)
  replace Rq := Lib.hid (Rq.out.below hbl)
  replace HNq := Lib.hid (HNq.out.below hbl)
  replace Rr := Lib.hid (Rr.out.below hbl)
  replace HNr := Lib.hid (HNr.out.below hbl)
  replace Rs := Lib.hid (Rs.out.below hbl)
  replace HNs := Lib.hid (HNs.out.below hbl)
  replace HW := Lib.hid (bel_trans HW.out hbl); clear hbl
  go_wp2_with fail
  refine (refCmp_bb a 1 _).mono ?_
  rintro e w9 ⟨rfl, hbl⟩
  replace RA := Lib.hid (RA.out.below hbl)
  replace RB := Lib.hid (RB.out.below hbl)
  replace T := Lib.hid (T.out.below hbl)
  replace Rq := Lib.hid (Rq.out.below hbl)
  replace HNq := Lib.hid (HNq.out.below hbl)
  replace Rr := Lib.hid (Rr.out.below hbl)
  replace HNr := Lib.hid (HNr.out.below hbl)
  replace Rs := Lib.hid (Rs.out.below hbl)
  replace HNs := Lib.hid (HNs.out.below hbl)
  replace HW := Lib.hid (bel_trans HW.out hbl); clear hbl
  rw [show cmpI (a : Int) ((1 : Nat) : Int) = -1 from cmpI_lt (by have := HA0.out; omega)]
  go_wp2_with fail
  refine (refRight_bb A' cap' ys _ RB.out l2).mono ?_
  rintro e w10 ⟨rfl, hbl⟩
  replace RA := Lib.hid (RA.out.below hbl)
  replace RB := Lib.hid (RB.out.below hbl)
  replace T := Lib.hid (T.out.below hbl)
  replace Rq := Lib.hid (Rq.out.below hbl)
  replace HNq := Lib.hid (HNq.out.below hbl)
  replace Rr := Lib.hid (Rr.out.below hbl)
  replace HNr := Lib.hid (HNr.out.below hbl)
  replace Rs := Lib.hid (Rs.out.below hbl)
  replace HNs := Lib.hid (HNs.out.below hbl)
  replace HW := Lib.hid (bel_trans HW.out hbl); clear hbl
  rw [HR.out]
  go_wp2_with fail
  refine (alive_any _ T.out).mono ?_
  rintro e w11 ⟨rfl, hbl⟩
  replace RA := Lib.hid (RA.out.below hbl)
  replace RB := Lib.hid (RB.out.below hbl)
  replace T := Lib.hid (T.out.below hbl)
  replace Rq := Lib.hid (Rq.out.below hbl)
  replace HNq := Lib.hid (HNq.out.below hbl)
  replace Rr := Lib.hid (Rr.out.below hbl)
  replace HNr := Lib.hid (HNr.out.below hbl)
  replace Rs := Lib.hid (Rs.out.below hbl)
  replace HNs := Lib.hid (HNs.out.below hbl)
  replace HW := Lib.hid (bel_trans HW.out hbl); clear hbl
  go_wp2
  go_ret
  exact ⟨rfl, HW.out⟩

set_option maxRecDepth 100000 in
set_option maxHeartbeats 1000000 in
theorem parts_wrong_far (A A' : Option Addr) (cap cap' : Nat) (x0 y0 : List Nat) (i : Int) (a : Nat) (w : World) (h : RdL w A x0) (h' : RdL w A' y0) (hc : x0.length ≤ cap) (hc' : y0.length ≤ cap') (ht : Bases w) (ha : few x0 = limbs a) (ha2 : a < Top) (hr : rightL (few y0) = false) (ha0 : a ≠ 0) (hi : 600 < i) :
    Calls Tryd.prog 4 #[.slice A x0.length cap, .slice A' y0.length cap', .int .i64 i] w (RetT w) := by
  have RA := Lib.hid (show RdL w A (few x0) from h.take 18); clear h
  have RB := Lib.hid (show RdL w A' (few y0) from h'.take 18); clear h'
  have T := Lib.hid ht; clear ht
  rw [ha] at RA
  have F1 := Lib.hid (And.intro hc ha); clear hc ha
  have LA := Lib.hid ha2; clear ha2
  have l2 := few_le y0
  obtain ⟨ys, hys⟩ : ∃ ys, few y0 = ys := ⟨_, rfl⟩
  rw [hys] at RB l2 hr
  have F2 := Lib.hid (And.intro hc' hys); clear hc' hys
  have HR := Lib.hid hr; clear hr
  have HW := Lib.hid (bel_refl w)
  obtain ⟨k, nb, p1, p2, q1, q2, q3, q4, q5, q6, q7⟩ := bits_powers LA.out ha0
  have e1 : ¬ cmpI (a : Int) (p1 : Int) < 0 := by have := cmp_ge (a := a) (b := p1) (by omega); omega
  have e2 : cmpI (a : Int) (p2 : Int) = -1 := cmpI_lt (by omega)
  have hk1 : IntKind.i64.wrap ((nb : Int) - 1) = (k : Int) := by rw [IntKind.wrap_i64]; omega
  have hn0 : (0 : Int) < (nb : Int) := by omega
  have hk2 : k ≤ 1000 := by omega
  have hnz : ((nb : Int) == 0) = false := by simp; omega
  have hnz2 : ¬ ((nb : Int) = 0) := by omega
  have HA0 := Lib.hid ha0; clear ha0
  have HQ := Lib.hid (And.intro q1 (And.intro q2 (And.intro q4 (And.intro q5 (And.intro q6 q7))))); clear q1 q2 q4 q5 q6 q7
  go_enter Tryd.func4, Tryd.ntmps4
  go_wp2_with fail
  refine (few_is A cap x0 (limbs a) _ F1.out.1 F1.out.2).mono ?_
  rintro e w1 ⟨rfl, hbl⟩
  replace RA := Lib.hid (RA.out.below hbl)
  replace RB := Lib.hid (RB.out.below hbl)
  replace T := Lib.hid (T.out.below hbl)
  replace HW := Lib.hid (bel_trans HW.out hbl); clear hbl
  go_wp2_with fail
  refine (few_is A' cap' y0 ys _ F2.out.1 F2.out.2).mono ?_
  rintro e w2 ⟨rfl, hbl⟩
  replace RA := Lib.hid (RA.out.below hbl)
  replace RB := Lib.hid (RB.out.below hbl)
  replace T := Lib.hid (T.out.below hbl)
  replace HW := Lib.hid (bel_trans HW.out hbl); clear hbl
  go_wp2_with fail
  refine (div_bad A A' cap cap' (limbs a) ys _ RA.out RB.out (len18 LA.out) l2 (by rw [HR.out, Bool.and_false])).mono ?_
  rintro e w3 ⟨vq, vr, rfl, hnq, hnr, hbl⟩
  replace RA := Lib.hid (RA.out.below hbl)
  replace RB := Lib.hid (RB.out.below hbl)
  replace T := Lib.hid (T.out.below hbl)
  replace HW := Lib.hid (bel_trans HW.out hbl); clear hbl
  have HNq := Lib.hid hnq; clear hnq
  obtain ⟨Aq, cq, rfl, hcq, hrq⟩ := HNq.out.row
  have Rq := Lib.hid hrq; clear hrq hcq
  have HNr := Lib.hid hnr; clear hnr
  obtain ⟨Ar, cr, rfl, hcr, hrr⟩ := HNr.out.row
  have Rr := Lib.hid hrr; clear hrr hcr
  rw [limbs0]
  go_wp2_with fail
  refine (shift_far A cap a i _ RA.out LA.out HA0.out hi).mono ?_
  rintro e w4 ⟨vs, rfl, hns, hbl⟩
  replace RA := Lib.hid (RA.out.below hbl)
  replace RB := Lib.hid (RB.out.below hbl)
  replace T := Lib.hid (T.out.below hbl)
  replace Rq := Lib.hid (Rq.out.below hbl)
  replace HNq := Lib.hid (HNq.out.below hbl)
  replace Rr := Lib.hid (Rr.out.below hbl)
  replace HNr := Lib.hid (HNr.out.below hbl)
  replace HW := Lib.hid (bel_trans HW.out hbl); clear hbl
  have HNs := Lib.hid hns; clear hns
  obtain ⟨As, cs, rfl, hcs, hrs⟩ := HNs.out.row
  have Rs := Lib.hid hrs; clear hrs hcs
  rw [limbs0]
  go_wp2_with fail
  refine (bits_is A cap a nb _ RA.out LA.out HQ.out.1).mono ?_
  rintro e w5 ⟨rfl, hbl⟩
  replace RA := Lib.hid (RA.out.below hbl)
  replace RB := Lib.hid (RB.out.below hbl)
  replace T := Lib.hid (T.out.below hbl)
  replace Rq := Lib.hid (Rq.out.below hbl)
  replace HNq := Lib.hid (HNq.out.below hbl)
  replace Rr := Lib.hid (Rr.out.below hbl)
  replace HNr := Lib.hid (HNr.out.below hbl)
  replace Rs := Lib.hid (Rs.out.below hbl)
  replace HNs := Lib.hid (HNs.out.below hbl)
  replace HW := Lib.hid (bel_trans HW.out hbl); clear hbl
  go_wp2_with fail
  refine (refRightR LA.out A cap _ RA.out).mono ?_
  rintro e w6 ⟨rfl, hbl⟩
  replace RA := Lib.hid (RA.out.below hbl)
  replace RB := Lib.hid (RB.out.below hbl)
  replace T := Lib.hid (T.out.below hbl)
  replace Rq := Lib.hid (Rq.out.below hbl)
  replace HNq := Lib.hid (HNq.out.below hbl)
  replace Rr := Lib.hid (Rr.out.below hbl)
  replace HNr := Lib.hid (HNr.out.below hbl)
  replace Rs := Lib.hid (Rs.out.below hbl)
  replace HNs := Lib.hid (HNs.out.below hbl)
  replace HW := Lib.hid (bel_trans HW.out hbl); clear hbl
  go_wp2_with fail
  refine (text_num A cap a _ RA.out LA.out).mono ?_
  rintro e w7 ⟨rfl, hbl⟩
  replace RA := Lib.hid (RA.out.below hbl)
  replace RB := Lib.hid (RB.out.below hbl)
  replace T := Lib.hid (T.out.below hbl)
  replace Rq := Lib.hid (Rq.out.below hbl)
  replace HNq := Lib.hid (HNq.out.below hbl)
  replace Rr := Lib.hid (Rr.out.below hbl)
  replace HNr := Lib.hid (HNr.out.below hbl)
  replace Rs := Lib.hid (Rs.out.below hbl)
  replace HNs := Lib.hid (HNs.out.below hbl)
  replace HW := Lib.hid (bel_trans HW.out hbl); clear hbl
  go_wp2_with fail
  refine (power_is k p1 _ HQ.out.2.2.1 (by omega)).mono ?_
  rintro e w8 ⟨rfl, hbl⟩
  replace RA := Lib.hid (RA.out.below hbl)
  replace RB := Lib.hid (RB.out.below hbl)
  replace T := Lib.hid (T.out.below hbl)
  replace Rq := Lib.hid (Rq.out.below hbl)
  replace HNq := Lib.hid (HNq.out.below hbl)
  replace Rr := Lib.hid (Rr.out.below hbl)
  replace HNr := Lib.hid (HNr.out.below hbl)
  replace Rs := Lib.hid (Rs.out.below hbl)
  replace HNs := Lib.hid (HNs.out.below hbl)
  replace HW := Lib.hid (bel_trans HW.out hbl); clear hbl
  go_wp2_with fail
  refine (refCmp_bb a p1 _).mono ?_
  rintro e w9 ⟨rfl, hbl⟩
  replace RA := Lib.hid (RA.out.below hbl)
  replace RB := Lib.hid (RB.out.below hbl)
  replace T := Lib.hid (T.out.below hbl)
  replace Rq := Lib.hid (Rq.out.below hbl)
  replace HNq := Lib.hid (HNq.out.below hbl)
  replace Rr := Lib.hid (Rr.out.below hbl)
  replace HNr := Lib.hid (HNr.out.below hbl)
  replace Rs := Lib.hid (Rs.out.below hbl)
  replace HNs := Lib.hid (HNs.out.below hbl)
  replace HW := Lib.hid (bel_trans HW.out hbl); clear hbl
  go_wp2_with fail
  refine (power_is nb p2 _ HQ.out.2.2.2.1 (by omega)).mono ?_
  rintro e w10 ⟨rfl, hbl⟩
  replace RA := Lib.hid (RA.out.below hbl)
  replace RB := Lib.hid (RB.out.below hbl)
  replace T := Lib.hid (T.out.below hbl)
  replace Rq := Lib.hid (Rq.out.below hbl)
  replace HNq := Lib.hid (HNq.out.below hbl)
  replace Rr := Lib.hid (Rr.out.below hbl)
  replace HNr := Lib.hid (HNr.out.below hbl)
  replace Rs := Lib.hid (Rs.out.below hbl)
  replace HNs := Lib.hid (HNs.out.below hbl)
  replace HW := Lib.hid (bel_trans HW.out hbl); clear hbl
  go_wp2_with fail
  refine (refCmp_bb a p2 _).mono ?_
  rintro e w11 ⟨rfl, hbl⟩
  replace RA := Lib.hid (RA.out.below hbl)
  replace RB := Lib.hid (RB.out.below hbl)
  replace T := Lib.hid (T.out.below hbl)
  replace Rq := Lib.hid (Rq.out.below hbl)
  replace HNq := Lib.hid (HNq.out.below hbl)
  replace Rr := Lib.hid (Rr.out.below hbl)
  replace HNr := Lib.hid (HNr.out.below hbl)
  replace Rs := Lib.hid (Rs.out.below hbl)
  replace HNs := Lib.hid (HNs.out.below hbl)
  replace HW := Lib.hid (bel_trans HW.out hbl); clear hbl
  go_wp2_with fail
  refine (refRight_bb A' cap' ys _ RB.out l2).mono ?_
  rintro e w12 ⟨rfl, hbl⟩
  replace RA := Lib.hid (RA.out.below hbl)
  replace RB := Lib.hid (RB.out.below hbl)
  replace T := Lib.hid (T.out.below hbl)
  replace Rq := Lib.hid (Rq.out.below hbl)
  replace HNq := Lib.hid (HNq.out.below hbl)
  replace Rr := Lib.hid (Rr.out.below hbl)
  replace HNr := Lib.hid (HNr.out.below hbl)
  replace Rs := Lib.hid (Rs.out.below hbl)
  replace HNs := Lib.hid (HNs.out.below hbl)
  replace HW := Lib.hid (bel_trans HW.out hbl); clear hbl
  rw [HR.out]
  go_wp2_with fail
  refine (alive_any _ T.out).mono ?_
  rintro e w13 ⟨rfl, hbl⟩
  replace RA := Lib.hid (RA.out.below hbl)
  replace RB := Lib.hid (RB.out.below hbl)
  replace T := Lib.hid (T.out.below hbl)
  replace Rq := Lib.hid (Rq.out.below hbl)
  replace HNq := Lib.hid (HNq.out.below hbl)
  replace Rr := Lib.hid (Rr.out.below hbl)
  replace HNr := Lib.hid (HNr.out.below hbl)
  replace Rs := Lib.hid (Rs.out.below hbl)
  replace HNs := Lib.hid (HNs.out.below hbl)
  replace HW := Lib.hid (bel_trans HW.out hbl); clear hbl
  go_wp2
  go_ret
  exact ⟨rfl, HW.out⟩

set_option maxRecDepth 100000 in
set_option maxHeartbeats 1000000 in
theorem parts_wrong_gone (A A' : Option Addr) (cap cap' : Nat) (x0 y0 : List Nat) (i : Int) (a : Nat) (w : World) (h : RdL w A x0) (h' : RdL w A' y0) (hc : x0.length ≤ cap) (hc' : y0.length ≤ cap') (ht : Bases w) (ha : few x0 = limbs a) (ha2 : a < Top) (hr : rightL (few y0) = false) (ha0 : a ≠ 0) (hi : i < -600) :
    Calls Tryd.prog 4 #[.slice A x0.length cap, .slice A' y0.length cap', .int .i64 i] w (RetT w) := by
  have RA := Lib.hid (show RdL w A (few x0) from h.take 18); clear h
  have RB := Lib.hid (show RdL w A' (few y0) from h'.take 18); clear h'
  have T := Lib.hid ht; clear ht
  rw [ha] at RA
  have F1 := Lib.hid (And.intro hc ha); clear hc ha
  have LA := Lib.hid ha2; clear ha2
  have l2 := few_le y0
  obtain ⟨ys, hys⟩ : ∃ ys, few y0 = ys := ⟨_, rfl⟩
  rw [hys] at RB l2 hr
  have F2 := Lib.hid (And.intro hc' hys); clear hc' hys
  have HR := Lib.hid hr; clear hr
  have HW := Lib.hid (bel_refl w)
  obtain ⟨k, nb, p1, p2, q1, q2, q3, q4, q5, q6, q7⟩ := bits_powers LA.out ha0
  have e1 : ¬ cmpI (a : Int) (p1 : Int) < 0 := by have := cmp_ge (a := a) (b := p1) (by omega); omega
  have e2 : cmpI (a : Int) (p2 : Int) = -1 := cmpI_lt (by omega)
  have hk1 : IntKind.i64.wrap ((nb : Int) - 1) = (k : Int) := by rw [IntKind.wrap_i64]; omega
  have hn0 : (0 : Int) < (nb : Int) := by omega
  have hk2 : k ≤ 1000 := by omega
  have hnz : ((nb : Int) == 0) = false := by simp; omega
  have hnz2 : ¬ ((nb : Int) = 0) := by omega
  have HA0 := Lib.hid ha0; clear ha0
  have HQ := Lib.hid (And.intro q1 (And.intro q2 (And.intro q4 (And.intro q5 (And.intro q6 q7))))); clear q1 q2 q4 q5 q6 q7
  go_enter Tryd.func4, Tryd.ntmps4
  go_wp2_with fail
  refine (few_is A cap x0 (limbs a) _ F1.out.1 F1.out.2).mono ?_
  rintro e w1 ⟨rfl, hbl⟩
  replace RA := Lib.hid (RA.out.below hbl)
  replace RB := Lib.hid (RB.out.below hbl)
  replace T := Lib.hid (T.out.below hbl)
  replace HW := Lib.hid (bel_trans HW.out hbl); clear hbl
  go_wp2_with fail
  refine (few_is A' cap' y0 ys _ F2.out.1 F2.out.2).mono ?_
  rintro e w2 ⟨rfl, hbl⟩
  replace RA := Lib.hid (RA.out.below hbl)
  replace RB := Lib.hid (RB.out.below hbl)
  replace T := Lib.hid (T.out.below hbl)
  replace HW := Lib.hid (bel_trans HW.out hbl); clear hbl
  go_wp2_with fail
  refine (div_bad A A' cap cap' (limbs a) ys _ RA.out RB.out (len18 LA.out) l2 (by rw [HR.out, Bool.and_false])).mono ?_
  rintro e w3 ⟨vq, vr, rfl, hnq, hnr, hbl⟩
  replace RA := Lib.hid (RA.out.below hbl)
  replace RB := Lib.hid (RB.out.below hbl)
  replace T := Lib.hid (T.out.below hbl)
  replace HW := Lib.hid (bel_trans HW.out hbl); clear hbl
  have HNq := Lib.hid hnq; clear hnq
  obtain ⟨Aq, cq, rfl, hcq, hrq⟩ := HNq.out.row
  have Rq := Lib.hid hrq; clear hrq hcq
  have HNr := Lib.hid hnr; clear hnr
  obtain ⟨Ar, cr, rfl, hcr, hrr⟩ := HNr.out.row
  have Rr := Lib.hid hrr; clear hrr hcr
  rw [limbs0]
  go_wp2_with fail
  refine (shift_gone A cap a i _ RA.out LA.out hi).mono ?_
  rintro e w4 ⟨vs, rfl, hns, hbl⟩
  replace RA := Lib.hid (RA.out.below hbl)
  replace RB := Lib.hid (RB.out.below hbl)
  replace T := Lib.hid (T.out.below hbl)
  replace Rq := Lib.hid (Rq.out.below hbl)
  replace HNq := Lib.hid (HNq.out.below hbl)
  replace Rr := Lib.hid (Rr.out.below hbl)
  replace HNr := Lib.hid (HNr.out.below hbl)
  replace HW := Lib.hid (bel_trans HW.out hbl); clear hbl
  have HNs := Lib.hid hns; clear hns
  obtain ⟨As, cs, rfl, hcs, hrs⟩ := HNs.out.row
  have Rs := Lib.hid hrs; clear hrs hcs
  rw [limbs0]
  go_wp2_with fail
  refine (bits_is A cap a nb _ RA.out LA.out HQ.out.1).mono ?_
  rintro e w5 ⟨rfl, hbl⟩
  replace RA := Lib.hid (RA.out.below hbl)
  replace RB := Lib.hid (RB.out.below hbl)
  replace T := Lib.hid (T.out.below hbl)
  replace Rq := Lib.hid (Rq.out.below hbl)
  replace HNq := Lib.hid (HNq.out.below hbl)
  replace Rr := Lib.hid (Rr.out.below hbl)
  replace HNr := Lib.hid (HNr.out.below hbl)
  replace Rs := Lib.hid (Rs.out.below hbl)
  replace HNs := Lib.hid (HNs.out.below hbl)
  replace HW := Lib.hid (bel_trans HW.out hbl); clear hbl
  go_wp2_with fail
  refine (refRightR LA.out A cap _ RA.out).mono ?_
  rintro e w6 ⟨rfl, hbl⟩
  replace RA := Lib.hid (RA.out.below hbl)
  replace RB := Lib.hid (RB.out.below hbl)
  replace T := Lib.hid (T.out.below hbl)
  replace Rq := Lib.hid (Rq.out.below hbl)
  replace HNq := Lib.hid (HNq.out.below hbl)
  replace Rr := Lib.hid (Rr.out.below hbl)
  replace HNr := Lib.hid (HNr.out.below hbl)
  replace Rs := Lib.hid (Rs.out.below hbl)
  replace HNs := Lib.hid (HNs.out.below hbl)
  replace HW := Lib.hid (bel_trans HW.out hbl); clear hbl
  go_wp2_with fail
  refine (text_num A cap a _ RA.out LA.out).mono ?_
  rintro e w7 ⟨rfl, hbl⟩
  replace RA := Lib.hid (RA.out.below hbl)
  replace RB := Lib.hid (RB.out.below hbl)
  replace T := Lib.hid (T.out.below hbl)
  replace Rq := Lib.hid (Rq.out.below hbl)
  replace HNq := Lib.hid (HNq.out.below hbl)
  replace Rr := Lib.hid (Rr.out.below hbl)
  replace HNr := Lib.hid (HNr.out.below hbl)
  replace Rs := Lib.hid (Rs.out.below hbl)
  replace HNs := Lib.hid (HNs.out.below hbl)
  replace HW := Lib.hid (bel_trans HW.out hbl); clear hbl
  go_wp2_with fail
  refine (power_is k p1 _ HQ.out.2.2.1 (by omega)).mono ?_
  rintro e w8 ⟨rfl, hbl⟩
  replace RA := Lib.hid (RA.out.below hbl)
  replace RB := Lib.hid (RB.out.below hbl)
  replace T := Lib.hid (T.out.below hbl)
  replace Rq := Lib.hid (Rq.out.below hbl)
  replace HNq := Lib.hid (HNq.out.below hbl)
  replace Rr := Lib.hid (Rr.out.below hbl)
  replace HNr := Lib.hid (HNr.out.below hbl)
  replace Rs := Lib.hid (Rs.out.below hbl)
  replace HNs := Lib.hid (HNs.out.below hbl)
  replace HW := Lib.hid (bel_trans HW.out hbl); clear hbl
  go_wp2_with fail
  refine (refCmp_bb a p1 _).mono ?_
  rintro e w9 ⟨rfl, hbl⟩
  replace RA := Lib.hid (RA.out.below hbl)
  replace RB := Lib.hid (RB.out.below hbl)
  replace T := Lib.hid (T.out.below hbl)
  replace Rq := Lib.hid (Rq.out.below hbl)
  replace HNq := Lib.hid (HNq.out.below hbl)
  replace Rr := Lib.hid (Rr.out.below hbl)
  replace HNr := Lib.hid (HNr.out.below hbl)
  replace Rs := Lib.hid (Rs.out.below hbl)
  replace HNs := Lib.hid (HNs.out.below hbl)
  replace HW := Lib.hid (bel_trans HW.out hbl); clear hbl
  go_wp2_with fail
  refine (power_is nb p2 _ HQ.out.2.2.2.1 (by omega)).mono ?_
  rintro e w10 ⟨rfl, hbl⟩
  replace RA := Lib.hid (RA.out.below hbl)
  replace RB := Lib.hid (RB.out.below hbl)
  replace T := Lib.hid (T.out.below hbl)
  replace Rq := Lib.hid (Rq.out.below hbl)
  replace HNq := Lib.hid (HNq.out.below hbl)
  replace Rr := Lib.hid (Rr.out.below hbl)
  replace HNr := Lib.hid (HNr.out.below hbl)
  replace Rs := Lib.hid (Rs.out.below hbl)
  replace HNs := Lib.hid (HNs.out.below hbl)
  replace HW := Lib.hid (bel_trans HW.out hbl); clear hbl
  go_wp2_with fail
  refine (refCmp_bb a p2 _).mono ?_
  rintro e w11 ⟨rfl, hbl⟩
  replace RA := Lib.hid (RA.out.below hbl)
  replace RB := Lib.hid (RB.out.below hbl)
  replace T := Lib.hid (T.out.below hbl)
  replace Rq := Lib.hid (Rq.out.below hbl)
  replace HNq := Lib.hid (HNq.out.below hbl)
  replace Rr := Lib.hid (Rr.out.below hbl)
  replace HNr := Lib.hid (HNr.out.below hbl)
  replace Rs := Lib.hid (Rs.out.below hbl)
  replace HNs := Lib.hid (HNs.out.below hbl)
  replace HW := Lib.hid (bel_trans HW.out hbl); clear hbl
  go_wp2_with fail
  refine (refRight_bb A' cap' ys _ RB.out l2).mono ?_
  rintro e w12 ⟨rfl, hbl⟩
  replace RA := Lib.hid (RA.out.below hbl)
  replace RB := Lib.hid (RB.out.below hbl)
  replace T := Lib.hid (T.out.below hbl)
  replace Rq := Lib.hid (Rq.out.below hbl)
  replace HNq := Lib.hid (HNq.out.below hbl)
  replace Rr := Lib.hid (Rr.out.below hbl)
  replace HNr := Lib.hid (HNr.out.below hbl)
  replace Rs := Lib.hid (Rs.out.below hbl)
  replace HNs := Lib.hid (HNs.out.below hbl)
  replace HW := Lib.hid (bel_trans HW.out hbl); clear hbl
  rw [HR.out]
  go_wp2_with fail
  refine (alive_any _ T.out).mono ?_
  rintro e w13 ⟨rfl, hbl⟩
  replace RA := Lib.hid (RA.out.below hbl)
  replace RB := Lib.hid (RB.out.below hbl)
  replace T := Lib.hid (T.out.below hbl)
  replace Rq := Lib.hid (Rq.out.below hbl)
  replace HNq := Lib.hid (HNq.out.below hbl)
  replace Rr := Lib.hid (Rr.out.below hbl)
  replace HNr := Lib.hid (HNr.out.below hbl)
  replace Rs := Lib.hid (Rs.out.below hbl)
  replace HNs := Lib.hid (HNs.out.below hbl)
  replace HW := Lib.hid (bel_trans HW.out hbl); clear hbl
  go_wp2
  go_ret
  exact ⟨rfl, HW.out⟩

set_option maxRecDepth 100000 in
set_option maxHeartbeats 1000000 in
theorem parts_wrong_up (A A' : Option Addr) (cap cap' : Nat) (x0 y0 : List Nat) (i : Int) (a : Nat) (w : World) (h : RdL w A x0) (h' : RdL w A' y0) (hc : x0.length ≤ cap) (hc' : y0.length ≤ cap') (ht : Bases w) (ha : few x0 = limbs a) (ha2 : a < Top) (hr : rightL (few y0) = false) (ha0 : a ≠ 0) (m : Nat) (him : i = (m : Int)) (hi : m ≤ 600) :
    Calls Tryd.prog 4 #[.slice A x0.length cap, .slice A' y0.length cap', .int .i64 i] w (RetT w) := by
  have RA := Lib.hid (show RdL w A (few x0) from h.take 18); clear h
  have RB := Lib.hid (show RdL w A' (few y0) from h'.take 18); clear h'
  have T := Lib.hid ht; clear ht
  rw [ha] at RA
  have F1 := Lib.hid (And.intro hc ha); clear hc ha
  have LA := Lib.hid ha2; clear ha2
  have l2 := few_le y0
  obtain ⟨ys, hys⟩ : ∃ ys, few y0 = ys := ⟨_, rfl⟩
  rw [hys] at RB l2 hr
  have F2 := Lib.hid (And.intro hc' hys); clear hc' hys
  have HR := Lib.hid hr; clear hr
  have HW := Lib.hid (bel_refl w)
  subst him
  obtain ⟨p, hp⟩ : ∃ p, 2 ^ m = p := ⟨_, rfl⟩
  have hpl := power_len hp (by omega)
  have hpp : p ≠ 0 := by rw [← hp]; exact pow_ne m
  have HP := Lib.hid (And.intro hp (And.intro hpl hpp)); clear hp hpl hpp
  have i1 : ¬ 600 < (m : Int) := by omega
  have i2 : ¬ (m : Int) < -600 := by omega
  have i3 : (0 : Int) ≤ (m : Int) := by omega
  have i4 : ¬ (m : Int) < 0 := by omega
  obtain ⟨k, nb, p1, p2, q1, q2, q3, q4, q5, q6, q7⟩ := bits_powers LA.out ha0
  have e1 : ¬ cmpI (a : Int) (p1 : Int) < 0 := by have := cmp_ge (a := a) (b := p1) (by omega); omega
  have e2 : cmpI (a : Int) (p2 : Int) = -1 := cmpI_lt (by omega)
  have hk1 : IntKind.i64.wrap ((nb : Int) - 1) = (k : Int) := by rw [IntKind.wrap_i64]; omega
  have hn0 : (0 : Int) < (nb : Int) := by omega
  have hk2 : k ≤ 1000 := by omega
  have hnz : ((nb : Int) == 0) = false := by simp; omega
  have hnz2 : ¬ ((nb : Int) = 0) := by omega
  have HA0 := Lib.hid ha0; clear ha0
  have HQ := Lib.hid (And.intro q1 (And.intro q2 (And.intro q4 (And.intro q5 (And.intro q6 q7))))); clear q1 q2 q4 q5 q6 q7
  go_enter Tryd.func4, Tryd.ntmps4
  go_wp2_with fail
  refine (few_is A cap x0 (limbs a) _ F1.out.1 F1.out.2).mono ?_
  rintro e w1 ⟨rfl, hbl⟩
  replace RA := Lib.hid (RA.out.below hbl)
  replace RB := Lib.hid (RB.out.below hbl)
  replace T := Lib.hid (T.out.below hbl)
  replace HW := Lib.hid (bel_trans HW.out hbl); clear hbl
  go_wp2_with fail
  refine (few_is A' cap' y0 ys _ F2.out.1 F2.out.2).mono ?_
  rintro e w2 ⟨rfl, hbl⟩
  replace RA := Lib.hid (RA.out.below hbl)
  replace RB := Lib.hid (RB.out.below hbl)
  replace T := Lib.hid (T.out.below hbl)
  replace HW := Lib.hid (bel_trans HW.out hbl); clear hbl
  go_wp2_with fail
  refine (div_bad A A' cap cap' (limbs a) ys _ RA.out RB.out (len18 LA.out) l2 (by rw [HR.out, Bool.and_false])).mono ?_
  rintro e w3 ⟨vq, vr, rfl, hnq, hnr, hbl⟩
  replace RA := Lib.hid (RA.out.below hbl)
  replace RB := Lib.hid (RB.out.below hbl)
  replace T := Lib.hid (T.out.below hbl)
  replace HW := Lib.hid (bel_trans HW.out hbl); clear hbl
  have HNq := Lib.hid hnq; clear hnq
  obtain ⟨Aq, cq, rfl, hcq, hrq⟩ := HNq.out.row
  have Rq := Lib.hid hrq; clear hrq hcq
  have HNr := Lib.hid hnr; clear hnr
  obtain ⟨Ar, cr, rfl, hcr, hrr⟩ := HNr.out.row
  have Rr := Lib.hid hrr; clear hrr hcr
  rw [limbs0]
  go_wp2_with fail
  refine (shift_up A cap a m _ RA.out LA.out).mono ?_
  rintro e w4 ⟨vs, rfl, hns, hbl⟩
  replace RA := Lib.hid (RA.out.below hbl)
  replace RB := Lib.hid (RB.out.below hbl)
  replace T := Lib.hid (T.out.below hbl)
  replace Rq := Lib.hid (Rq.out.below hbl)
  replace HNq := Lib.hid (HNq.out.below hbl)
  replace Rr := Lib.hid (Rr.out.below hbl)
  replace HNr := Lib.hid (HNr.out.below hbl)
  replace HW := Lib.hid (bel_trans HW.out hbl); clear hbl
  have HNs := Lib.hid hns; clear hns
  obtain ⟨As, cs, rfl, hcs, hrs⟩ := HNs.out.row
  have Rs := Lib.hid hrs; clear hrs hcs
  have E := Lib.hid HP.out.1
  rw [E.out] at HNs ⊢
  go_wp2_with fail
  refine (bits_is A cap a nb _ RA.out LA.out HQ.out.1).mono ?_
  rintro e w5 ⟨rfl, hbl⟩
  replace RA := Lib.hid (RA.out.below hbl)
  replace RB := Lib.hid (RB.out.below hbl)
  replace T := Lib.hid (T.out.below hbl)
  replace Rq := Lib.hid (Rq.out.below hbl)
  replace HNq := Lib.hid (HNq.out.below hbl)
  replace Rr := Lib.hid (Rr.out.below hbl)
  replace HNr := Lib.hid (HNr.out.below hbl)
  replace Rs := Lib.hid (Rs.out.below hbl)
  replace HNs := Lib.hid (HNs.out.below hbl)
  replace HW := Lib.hid (bel_trans HW.out hbl); clear hbl
  go_wp2_with fail
  refine (refRightR LA.out A cap _ RA.out).mono ?_
  rintro e w6 ⟨rfl, hbl⟩
  replace RA := Lib.hid (RA.out.below hbl)
  replace RB := Lib.hid (RB.out.below hbl)
  replace T := Lib.hid (T.out.below hbl)
  replace Rq := Lib.hid (Rq.out.below hbl)
  replace HNq := Lib.hid (HNq.out.below hbl)
  replace Rr := Lib.hid (Rr.out.below hbl)
  replace HNr := Lib.hid (HNr.out.below hbl)
  replace Rs := Lib.hid (Rs.out.below hbl)
  replace HNs := Lib.hid (HNs.out.below hbl)
  replace HW := Lib.hid (bel_trans HW.out hbl); clear hbl
  go_wp2_with fail
  refine (text_num A cap a _ RA.out LA.out).mono ?_
  rintro e w7 ⟨rfl, hbl⟩
  replace RA := Lib.hid (RA.out.below hbl)
  replace RB := Lib.hid (RB.out.below hbl)
  replace T := Lib.hid (T.out.below hbl)
  replace Rq := Lib.hid (Rq.out.below hbl)
  replace HNq := Lib.hid (HNq.out.below hbl)
  replace Rr := Lib.hid (Rr.out.below hbl)
  replace HNr := Lib.hid (HNr.out.below hbl)
  replace Rs := Lib.hid (Rs.out.below hbl)
  replace HNs := Lib.hid (HNs.out.below hbl)
  replace HW := Lib.hid (bel_trans HW.out hbl); clear hbl
  go_wp2_with fail
  refine (power_is k p1 _ HQ.out.2.2.1 (by omega)).mono ?_
  rintro e w8 ⟨rfl, hbl⟩
  replace RA := Lib.hid (RA.out.below hbl)
  replace RB := Lib.hid (RB.out.below hbl)
  replace T := Lib.hid (T.out.below hbl)
  replace Rq := Lib.hid (Rq.out.below hbl)
  replace HNq := Lib.hid (HNq.out.below hbl)
  replace Rr := Lib.hid (Rr.out.below hbl)
  replace HNr := Lib.hid (HNr.out.below hbl)
  replace Rs := Lib.hid (Rs.out.below hbl)
  replace HNs := Lib.hid (HNs.out.below hbl)
  replace HW := Lib.hid (bel_trans HW.out hbl); clear hbl
  go_wp2_with fail
  refine (refCmp_bb a p1 _).mono ?_
  rintro e w9 ⟨rfl, hbl⟩
  replace RA := Lib.hid (RA.out.below hbl)
  replace RB := Lib.hid (RB.out.below hbl)
  replace T := Lib.hid (T.out.below hbl)
  replace Rq := Lib.hid (Rq.out.below hbl)
  replace HNq := Lib.hid (HNq.out.below hbl)
  replace Rr := Lib.hid (Rr.out.below hbl)
  replace HNr := Lib.hid (HNr.out.below hbl)
  replace Rs := Lib.hid (Rs.out.below hbl)
  replace HNs := Lib.hid (HNs.out.below hbl)
  replace HW := Lib.hid (bel_trans HW.out hbl); clear hbl
  go_wp2_with fail
  refine (power_is nb p2 _ HQ.out.2.2.2.1 (by omega)).mono ?_
  rintro e w10 ⟨rfl, hbl⟩
  replace RA := Lib.hid (RA.out.below hbl)
  replace RB := Lib.hid (RB.out.below hbl)
  replace T := Lib.hid (T.out.below hbl)
  replace Rq := Lib.hid (Rq.out.below hbl)
  replace HNq := Lib.hid (HNq.out.below hbl)
  replace Rr := Lib.hid (Rr.out.below hbl)
  replace HNr := Lib.hid (HNr.out.below hbl)
  replace Rs := Lib.hid (Rs.out.below hbl)
  replace HNs := Lib.hid (HNs.out.below hbl)
  replace HW := Lib.hid (bel_trans HW.out hbl); clear hbl
  go_wp2_with fail
  refine (refCmp_bb a p2 _).mono ?_
  rintro e w11 ⟨rfl, hbl⟩
  replace RA := Lib.hid (RA.out.below hbl)
  replace RB := Lib.hid (RB.out.below hbl)
  replace T := Lib.hid (T.out.below hbl)
  replace Rq := Lib.hid (Rq.out.below hbl)
  replace HNq := Lib.hid (HNq.out.below hbl)
  replace Rr := Lib.hid (Rr.out.below hbl)
  replace HNr := Lib.hid (HNr.out.below hbl)
  replace Rs := Lib.hid (Rs.out.below hbl)
  replace HNs := Lib.hid (HNs.out.below hbl)
  replace HW := Lib.hid (bel_trans HW.out hbl); clear hbl
  go_wp2_with fail
  refine (power_is m p _ HP.out.1 (by omega)).mono ?_
  rintro e w12 ⟨rfl, hbl⟩
  replace RA := Lib.hid (RA.out.below hbl)
  replace RB := Lib.hid (RB.out.below hbl)
  replace T := Lib.hid (T.out.below hbl)
  replace Rq := Lib.hid (Rq.out.below hbl)
  replace HNq := Lib.hid (HNq.out.below hbl)
  replace Rr := Lib.hid (Rr.out.below hbl)
  replace HNr := Lib.hid (HNr.out.below hbl)
  replace Rs := Lib.hid (Rs.out.below hbl)
  replace HNs := Lib.hid (HNs.out.below hbl)
  replace HW := Lib.hid (bel_trans HW.out hbl); clear hbl
  go_wp2_with fail
  refine (refMul_any a p _ (by have := decL_top LA.out; omega) (by have := HP.out.2.1; omega)).mono ?_
  rintro e w13 ⟨rfl, hbl⟩
  replace RA := Lib.hid (RA.out.below hbl)
  replace RB := Lib.hid (RB.out.below hbl)
  replace T := Lib.hid (T.out.below hbl)
  replace Rq := Lib.hid (Rq.out.below hbl)
  replace HNq := Lib.hid (HNq.out.below hbl)
  replace Rr := Lib.hid (Rr.out.below hbl)
  replace HNr := Lib.hid (HNr.out.below hbl)
  replace Rs := Lib.hid (Rs.out.below hbl)
  replace HNs := Lib.hid (HNs.out.below hbl)
  replace HW := Lib.hid (bel_trans HW.out hbl); clear hbl
  go_wp2_with fail
  refine (is_any _ (a * p) _ _ HNs.out rfl).mono ?_
  rintro e w14 ⟨rfl, hbl⟩
  replace RA := Lib.hid (RA.out.below hbl)
  replace RB := Lib.hid (RB.out.below hbl)
  replace T := Lib.hid (T.out.below hbl)
  replace Rq := Lib.hid (Rq.out.below hbl)
  replace HNq := Lib.hid (HNq.out.below hbl)
  replace Rr := Lib.hid (Rr.out.below hbl)
  replace HNr := Lib.hid (HNr.out.below hbl)
  replace Rs := Lib.hid (Rs.out.below hbl)
  replace HNs := Lib.hid (HNs.out.below hbl)
  replace HW := Lib.hid (bel_trans HW.out hbl); clear hbl
  go_wp2_with fail
  refine (refRight_bb A' cap' ys _ RB.out l2).mono ?_
  rintro e w15 ⟨rfl, hbl⟩
  replace RA := Lib.hid (RA.out.below hbl)
  replace RB := Lib.hid (RB.out.below hbl)
  replace T := Lib.hid (T.out.below hbl)
  replace Rq := Lib.hid (Rq.out.below hbl)
  replace HNq := Lib.hid (HNq.out.below hbl)
  replace Rr := Lib.hid (Rr.out.below hbl)
  replace HNr := Lib.hid (HNr.out.below hbl)
  replace Rs := Lib.hid (Rs.out.below hbl)
  replace HNs := Lib.hid (HNs.out.below hbl)
  replace HW := Lib.hid (bel_trans HW.out hbl); clear hbl
  rw [HR.out]
  go_wp2_with fail
  refine (alive_any _ T.out).mono ?_
  rintro e w16 ⟨rfl, hbl⟩
  replace RA := Lib.hid (RA.out.below hbl)
  replace RB := Lib.hid (RB.out.below hbl)
  replace T := Lib.hid (T.out.below hbl)
  replace Rq := Lib.hid (Rq.out.below hbl)
  replace HNq := Lib.hid (HNq.out.below hbl)
  replace Rr := Lib.hid (Rr.out.below hbl)
  replace HNr := Lib.hid (HNr.out.below hbl)
  replace Rs := Lib.hid (Rs.out.below hbl)
  replace HNs := Lib.hid (HNs.out.below hbl)
  replace HW := Lib.hid (bel_trans HW.out hbl); clear hbl
  go_wp2
  go_ret
  exact ⟨rfl, HW.out⟩

set_option maxRecDepth 100000 in
set_option maxHeartbeats 1000000 in
theorem parts_wrong_down (A A' : Option Addr) (cap cap' : Nat) (x0 y0 : List Nat) (i : Int) (a : Nat) (w : World) (h : RdL w A x0) (h' : RdL w A' y0) (hc : x0.length ≤ cap) (hc' : y0.length ≤ cap') (ht : Bases w) (ha : few x0 = limbs a) (ha2 : a < Top) (hr : rightL (few y0) = false) (ha0 : a ≠ 0) (m : Nat) (him : i = -(m : Int)) (hi : m ≤ 600) (hi0 : 0 < m) :
    Calls Tryd.prog 4 #[.slice A x0.length cap, .slice A' y0.length cap', .int .i64 i] w (RetT w) := by
  have RA := Lib.hid (show RdL w A (few x0) from h.take 18); clear h
  have RB := Lib.hid (show RdL w A' (few y0) from h'.take 18); clear h'
  have T := Lib.hid ht; clear ht
  rw [ha] at RA
  have F1 := Lib.hid (And.intro hc ha); clear hc ha
  have LA := Lib.hid ha2; clear ha2
  have l2 := few_le y0
  obtain ⟨ys, hys⟩ : ∃ ys, few y0 = ys := ⟨_, rfl⟩
  rw [hys] at RB l2 hr
  have F2 := Lib.hid (And.intro hc' hys); clear hc' hys
  have HR := Lib.hid hr; clear hr
  have HW := Lib.hid (bel_refl w)
  subst him
  obtain ⟨p, hp⟩ : ∃ p, 2 ^ m = p := ⟨_, rfl⟩
  have hpl := power_len hp (by omega)
  have hpp : p ≠ 0 := by rw [← hp]; exact pow_ne m
  have HP := Lib.hid (And.intro hp (And.intro hpl hpp)); clear hp hpl hpp
  have i1 : ¬ 600 < -(m : Int) := by omega
  have i2 : ¬ -(m : Int) < -600 := by omega
  have i3 : ¬ (0 : Int) ≤ -(m : Int) := by omega
  have i4 : -(m : Int) < 0 := by omega
  have hneg : IntKind.i64.wrap (-(-(m : Int))) = (m : Int) := by rw [IntKind.wrap_i64]; omega
  have hneg2 : IntKind.i64.wrap (m : Int) = (m : Int) := by rw [IntKind.wrap_i64]; omega
  obtain ⟨k, nb, p1, p2, q1, q2, q3, q4, q5, q6, q7⟩ := bits_powers LA.out ha0
  have e1 : ¬ cmpI (a : Int) (p1 : Int) < 0 := by have := cmp_ge (a := a) (b := p1) (by omega); omega
  have e2 : cmpI (a : Int) (p2 : Int) = -1 := cmpI_lt (by omega)
  have hk1 : IntKind.i64.wrap ((nb : Int) - 1) = (k : Int) := by rw [IntKind.wrap_i64]; omega
  have hn0 : (0 : Int) < (nb : Int) := by omega
  have hk2 : k ≤ 1000 := by omega
  have hnz : ((nb : Int) == 0) = false := by simp; omega
  have hnz2 : ¬ ((nb : Int) = 0) := by omega
  have HA0 := Lib.hid ha0; clear ha0
  have HQ := Lib.hid (And.intro q1 (And.intro q2 (And.intro q4 (And.intro q5 (And.intro q6 q7))))); clear q1 q2 q4 q5 q6 q7
  have hfd := fun W => field_q (dec (a / p)) (dec (a % p)) W
  go_enter Tryd.func4, Tryd.ntmps4
  go_wp2_with fail
  refine (few_is A cap x0 (limbs a) _ F1.out.1 F1.out.2).mono ?_
  rintro e w1 ⟨rfl, hbl⟩
  replace RA := Lib.hid (RA.out.below hbl)
  replace RB := Lib.hid (RB.out.below hbl)
  replace T := Lib.hid (T.out.below hbl)
  replace HW := Lib.hid (bel_trans HW.out hbl); clear hbl
  go_wp2_with fail
  refine (few_is A' cap' y0 ys _ F2.out.1 F2.out.2).mono ?_
  rintro e w2 ⟨rfl, hbl⟩
  replace RA := Lib.hid (RA.out.below hbl)
  replace RB := Lib.hid (RB.out.below hbl)
  replace T := Lib.hid (T.out.below hbl)
  replace HW := Lib.hid (bel_trans HW.out hbl); clear hbl
  go_wp2_with fail
  refine (div_bad A A' cap cap' (limbs a) ys _ RA.out RB.out (len18 LA.out) l2 (by rw [HR.out, Bool.and_false])).mono ?_
  rintro e w3 ⟨vq, vr, rfl, hnq, hnr, hbl⟩
  replace RA := Lib.hid (RA.out.below hbl)
  replace RB := Lib.hid (RB.out.below hbl)
  replace T := Lib.hid (T.out.below hbl)
  replace HW := Lib.hid (bel_trans HW.out hbl); clear hbl
  have HNq := Lib.hid hnq; clear hnq
  obtain ⟨Aq, cq, rfl, hcq, hrq⟩ := HNq.out.row
  have Rq := Lib.hid hrq; clear hrq hcq
  have HNr := Lib.hid hnr; clear hnr
  obtain ⟨Ar, cr, rfl, hcr, hrr⟩ := HNr.out.row
  have Rr := Lib.hid hrr; clear hrr hcr
  rw [limbs0]
  go_wp2_with fail
  refine (shift_downS A cap a m (a / p) _ RA.out LA.out (by rw [HP.out.1])).mono ?_
  rintro e w4 ⟨vs, rfl, hns, hbl⟩
  replace RA := Lib.hid (RA.out.below hbl)
  replace RB := Lib.hid (RB.out.below hbl)
  replace T := Lib.hid (T.out.below hbl)
  replace Rq := Lib.hid (Rq.out.below hbl)
  replace HNq := Lib.hid (HNq.out.below hbl)
  replace Rr := Lib.hid (Rr.out.below hbl)
  replace HNr := Lib.hid (HNr.out.below hbl)
  replace HW := Lib.hid (bel_trans HW.out hbl); clear hbl
  have HNs := Lib.hid hns; clear hns
  obtain ⟨As, cs, rfl, hcs, hrs⟩ := HNs.out.row
  have Rs := Lib.hid hrs; clear hrs hcs
  go_wp2_with fail
  refine (bits_is A cap a nb _ RA.out LA.out HQ.out.1).mono ?_
  rintro e w5 ⟨rfl, hbl⟩
  replace RA := Lib.hid (RA.out.below hbl)
  replace RB := Lib.hid (RB.out.below hbl)
  replace T := Lib.hid (T.out.below hbl)
  replace Rq := Lib.hid (Rq.out.below hbl)
  replace HNq := Lib.hid (HNq.out.below hbl)
  replace Rr := Lib.hid (Rr.out.below hbl)
  replace HNr := Lib.hid (HNr.out.below hbl)
  replace Rs := Lib.hid (Rs.out.below hbl)
  replace HNs := Lib.hid (HNs.out.below hbl)
  replace HW := Lib.hid (bel_trans HW.out hbl); clear hbl
  go_wp2_with fail
  refine (refRightR LA.out A cap _ RA.out).mono ?_
  rintro e w6 ⟨rfl, hbl⟩
  replace RA := Lib.hid (RA.out.below hbl)
  replace RB := Lib.hid (RB.out.below hbl)
  replace T := Lib.hid (T.out.below hbl)
  replace Rq := Lib.hid (Rq.out.below hbl)
  replace HNq := Lib.hid (HNq.out.below hbl)
  replace Rr := Lib.hid (Rr.out.below hbl)
  replace HNr := Lib.hid (HNr.out.below hbl)
  replace Rs := Lib.hid (Rs.out.below hbl)
  replace HNs := Lib.hid (HNs.out.below hbl)
  replace HW := Lib.hid (bel_trans HW.out hbl); clear hbl
  go_wp2_with fail
  refine (text_num A cap a _ RA.out LA.out).mono ?_
  rintro e w7 ⟨rfl, hbl⟩
  replace RA := Lib.hid (RA.out.below hbl)
  replace RB := Lib.hid (RB.out.below hbl)
  replace T := Lib.hid (T.out.below hbl)
  replace Rq := Lib.hid (Rq.out.below hbl)
  replace HNq := Lib.hid (HNq.out.below hbl)
  replace Rr := Lib.hid (Rr.out.below hbl)
  replace HNr := Lib.hid (HNr.out.below hbl)
  replace Rs := Lib.hid (Rs.out.below hbl)
  replace HNs := Lib.hid (HNs.out.below hbl)
  replace HW := Lib.hid (bel_trans HW.out hbl); clear hbl
  go_wp2_with fail
  refine (power_is k p1 _ HQ.out.2.2.1 (by omega)).mono ?_
  rintro e w8 ⟨rfl, hbl⟩
  replace RA := Lib.hid (RA.out.below hbl)
  replace RB := Lib.hid (RB.out.below hbl)
  replace T := Lib.hid (T.out.below hbl)
  replace Rq := Lib.hid (Rq.out.below hbl)
  replace HNq := Lib.hid (HNq.out.below hbl)
  replace Rr := Lib.hid (Rr.out.below hbl)
  replace HNr := Lib.hid (HNr.out.below hbl)
  replace Rs := Lib.hid (Rs.out.below hbl)
  replace HNs := Lib.hid (HNs.out.below hbl)
  replace HW := Lib.hid (bel_trans HW.out hbl); clear hbl
  go_wp2_with fail
  refine (refCmp_bb a p1 _).mono ?_
  rintro e w9 ⟨rfl, hbl⟩
  replace RA := Lib.hid (RA.out.below hbl)
  replace RB := Lib.hid (RB.out.below hbl)
  replace T := Lib.hid (T.out.below hbl)
  replace Rq := Lib.hid (Rq.out.below hbl)
  replace HNq := Lib.hid (HNq.out.below hbl)
  replace Rr := Lib.hid (Rr.out.below hbl)
  replace HNr := Lib.hid (HNr.out.below hbl)
  replace Rs := Lib.hid (Rs.out.below hbl)
  replace HNs := Lib.hid (HNs.out.below hbl)
  replace HW := Lib.hid (bel_trans HW.out hbl); clear hbl
  go_wp2_with fail
  refine (power_is nb p2 _ HQ.out.2.2.2.1 (by omega)).mono ?_
  rintro e w10 ⟨rfl, hbl⟩
  replace RA := Lib.hid (RA.out.below hbl)
  replace RB := Lib.hid (RB.out.below hbl)
  replace T := Lib.hid (T.out.below hbl)
  replace Rq := Lib.hid (Rq.out.below hbl)
  replace HNq := Lib.hid (HNq.out.below hbl)
  replace Rr := Lib.hid (Rr.out.below hbl)
  replace HNr := Lib.hid (HNr.out.below hbl)
  replace Rs := Lib.hid (Rs.out.below hbl)
  replace HNs := Lib.hid (HNs.out.below hbl)
  replace HW := Lib.hid (bel_trans HW.out hbl); clear hbl
  go_wp2_with fail
  refine (refCmp_bb a p2 _).mono ?_
  rintro e w11 ⟨rfl, hbl⟩
  replace RA := Lib.hid (RA.out.below hbl)
  replace RB := Lib.hid (RB.out.below hbl)
  replace T := Lib.hid (T.out.below hbl)
  replace Rq := Lib.hid (Rq.out.below hbl)
  replace HNq := Lib.hid (HNq.out.below hbl)
  replace Rr := Lib.hid (Rr.out.below hbl)
  replace HNr := Lib.hid (HNr.out.below hbl)
  replace Rs := Lib.hid (Rs.out.below hbl)
  replace HNs := Lib.hid (HNs.out.below hbl)
  replace HW := Lib.hid (bel_trans HW.out hbl); clear hbl
  go_wp2_with fail
  refine (power_is m p _ HP.out.1 (by omega)).mono ?_
  rintro e w12 ⟨rfl, hbl⟩
  replace RA := Lib.hid (RA.out.below hbl)
  replace RB := Lib.hid (RB.out.below hbl)
  replace T := Lib.hid (T.out.below hbl)
  replace Rq := Lib.hid (Rq.out.below hbl)
  replace HNq := Lib.hid (HNq.out.below hbl)
  replace Rr := Lib.hid (Rr.out.below hbl)
  replace HNr := Lib.hid (HNr.out.below hbl)
  replace Rs := Lib.hid (Rs.out.below hbl)
  replace HNs := Lib.hid (HNs.out.below hbl)
  replace HW := Lib.hid (bel_trans HW.out hbl); clear hbl
  go_wp2_with fail
  refine (refDiv_any a p _ (by have := decL_top LA.out; omega) (by have := HP.out.2.1; omega) HP.out.2.2).mono ?_
  rintro e w13 ⟨rfl, hbl⟩
  replace RA := Lib.hid (RA.out.below hbl)
  replace RB := Lib.hid (RB.out.below hbl)
  replace T := Lib.hid (T.out.below hbl)
  replace Rq := Lib.hid (Rq.out.below hbl)
  replace HNq := Lib.hid (HNq.out.below hbl)
  replace Rr := Lib.hid (Rr.out.below hbl)
  replace HNr := Lib.hid (HNr.out.below hbl)
  replace Rs := Lib.hid (Rs.out.below hbl)
  replace HNs := Lib.hid (HNs.out.below hbl)
  replace HW := Lib.hid (bel_trans HW.out hbl); clear hbl
  have QS := Lib.hid (fit_small (lt_top (Nat.div_le_self a p) LA.out))
  go_wp2_with fail
  refine (is_any _ (a / p) 0 _ (by rw [QS.out.1]; exact HNs.out) QS.out.2.symm).mono ?_
  rintro e w14 ⟨rfl, hbl⟩
  replace RA := Lib.hid (RA.out.below hbl)
  replace RB := Lib.hid (RB.out.below hbl)
  replace T := Lib.hid (T.out.below hbl)
  replace Rq := Lib.hid (Rq.out.below hbl)
  replace HNq := Lib.hid (HNq.out.below hbl)
  replace Rr := Lib.hid (Rr.out.below hbl)
  replace HNr := Lib.hid (HNr.out.below hbl)
  replace Rs := Lib.hid (Rs.out.below hbl)
  replace HNs := Lib.hid (HNs.out.below hbl)
  replace HW := Lib.hid (bel_trans HW.out hbl); clear hbl
  go_wp2_with fail
  refine (refRight_bb A' cap' ys _ RB.out l2).mono ?_
  rintro e w15 ⟨rfl, hbl⟩
  replace RA := Lib.hid (RA.out.below hbl)
  replace RB := Lib.hid (RB.out.below hbl)
  replace T := Lib.hid (T.out.below hbl)
  replace Rq := Lib.hid (Rq.out.below hbl)
  replace HNq := Lib.hid (HNq.out.below hbl)
  replace Rr := Lib.hid (Rr.out.below hbl)
  replace HNr := Lib.hid (HNr.out.below hbl)
  replace Rs := Lib.hid (Rs.out.below hbl)
  replace HNs := Lib.hid (HNs.out.below hbl)
  replace HW := Lib.hid (bel_trans HW.out hbl); clear hbl
  rw [HR.out]
  go_wp2_with fail
  refine (alive_any _ T.out).mono ?_
  rintro e w16 ⟨rfl, hbl⟩
  replace RA := Lib.hid (RA.out.below hbl)
  replace RB := Lib.hid (RB.out.below hbl)
  replace T := Lib.hid (T.out.below hbl)
  replace Rq := Lib.hid (Rq.out.below hbl)
  replace HNq := Lib.hid (HNq.out.below hbl)
  replace Rr := Lib.hid (Rr.out.below hbl)
  replace HNr := Lib.hid (HNr.out.below hbl)
  replace Rs := Lib.hid (Rs.out.below hbl)
  replace HNs := Lib.hid (HNs.out.below hbl)
  replace HW := Lib.hid (bel_trans HW.out hbl); clear hbl
  go_wp2
  go_ret
  exact ⟨rfl, HW.out⟩

theorem parts_wrong_all (A A' : Option Addr) (cap cap' : Nat) (x0 y0 : List Nat) (i : Int) (a : Nat) (w : World) (h : RdL w A x0) (h' : RdL w A' y0) (hc : x0.length ≤ cap) (hc' : y0.length ≤ cap') (ht : Bases w) (ha : few x0 = limbs a) (ha2 : a < Top) (hr : rightL (few y0) = false) :
    Calls Tryd.prog 4 #[.slice A x0.length cap, .slice A' y0.length cap', .int .i64 i] w (RetT w) := by
  by_cases ha0 : a = 0
  · by_cases h1 : 600 < i
    · exact parts_wrong_nila A A' cap cap' x0 y0 i a w h h' hc hc' ht ha ha2 hr ha0 h1
    · by_cases h2 : i < -600
      · exact parts_wrong_nilb A A' cap cap' x0 y0 i a w h h' hc hc' ht ha ha2 hr ha0 h2
      · exact parts_wrong_nilc A A' cap cap' x0 y0 i a w h h' hc hc' ht ha ha2 hr ha0 h1 h2
  · by_cases h1 : 600 < i
    · exact parts_wrong_far A A' cap cap' x0 y0 i a w h h' hc hc' ht ha ha2 hr ha0 h1
    · by_cases h2 : i < -600
      · exact parts_wrong_gone A A' cap cap' x0 y0 i a w h h' hc hc' ht ha ha2 hr ha0 h2
      · by_cases h3 : 0 ≤ i
        · exact parts_wrong_up A A' cap cap' x0 y0 i a w h h' hc hc' ht ha ha2 hr ha0 i.toNat (by omega) (by omega)
        · exact parts_wrong_down A A' cap cap' x0 y0 i a w h h' hc hc' ht ha ha2 hr ha0 (-i).toNat (by omega) (by omega) (by omega)

set_option maxRecDepth 100000 in
set_option maxHeartbeats 1000000 in
theorem parts_none_nila (A A' : Option Addr) (cap cap' : Nat) (x0 y0 : List Nat) (i : Int) (a : Nat) (w : World) (h : RdL w A x0) (h' : RdL w A' y0) (hc : x0.length ≤ cap) (hc' : y0.length ≤ cap') (ht : Bases w) (ha : few x0 = limbs a) (ha2 : a < Top) (hb : few y0 = []) (hb2 : 0 < Top) (ha0 : a = 0) (hi : 600 < i) :
    Calls Tryd.prog 4 #[.slice A x0.length cap, .slice A' y0.length cap', .int .i64 i] w (RetT w) := by
  have RA := Lib.hid (show RdL w A (few x0) from h.take 18); clear h
  have RB := Lib.hid (show RdL w A' (few y0) from h'.take 18); clear h'
  have T := Lib.hid ht; clear ht
  rw [ha] at RA
  have F1 := Lib.hid (And.intro hc ha); clear hc ha
  have LA := Lib.hid ha2; clear ha2
  rw [hb] at RB
  have F2 := Lib.hid (And.intro hc' hb); clear hc' hb
  have LB := Lib.hid hb2; clear hb2
  have HW := Lib.hid (bel_refl w)
  have HA0 := Lib.hid ha0; clear ha0
  go_enter Tryd.func4, Tryd.ntmps4
  go_wp2_with fail
  refine (few_is A cap x0 (limbs a) _ F1.out.1 F1.out.2).mono ?_
  rintro e w1 ⟨rfl, hbl⟩
  replace RA := Lib.hid (RA.out.below hbl)
  replace RB := Lib.hid (RB.out.below hbl)
  replace T := Lib.hid (T.out.below hbl)
  replace HW := Lib.hid (bel_trans HW.out hbl); clear hbl
  go_wp2_with fail
  refine (few_is A' cap' y0 [] _ F2.out.1 F2.out.2).mono ?_
  rintro e w2 ⟨rfl, hbl⟩
  replace RA := Lib.hid (RA.out.below hbl)
  replace RB := Lib.hid (RB.out.below hbl)
  replace T := Lib.hid (T.out.below hbl)
  replace HW := Lib.hid (bel_trans HW.out hbl); clear hbl
  rw [show ([] : List Nat).length = 0 from rfl]
  go_wp2_with fail
  refine (div_none A A' cap cap' a _ RA.out LA.out).mono ?_
  rintro e w3 ⟨vq, vr, rfl, hnq, hnr, hbl⟩
  replace RA := Lib.hid (RA.out.below hbl)
  replace RB := Lib.hid (RB.out.below hbl)
  replace T := Lib.hid (T.out.below hbl)
  replace HW := Lib.hid (bel_trans HW.out hbl); clear hbl
  have HNq := Lib.hid hnq; clear hnq
  obtain ⟨Aq, cq, rfl, hcq, hrq⟩ := HNq.out.row
  have Rq := Lib.hid hrq; clear hrq hcq
  have HNr := Lib.hid hnr; clear hnr
  obtain ⟨Ar, cr, rfl, hcr, hrr⟩ := HNr.out.row
  have Rr := Lib.hid hrr; clear hrr hcr
  rw [limbs0]
  go_wp2_with fail
  refine (shift_zero A cap a i _ RA.out LA.out HA0.out).mono ?_
  rintro e w4 ⟨vs, rfl, hns, hbl⟩
  replace RA := Lib.hid (RA.out.below hbl)
  replace RB := Lib.hid (RB.out.below hbl)
  replace T := Lib.hid (T.out.below hbl)
  replace Rq := Lib.hid (Rq.out.below hbl)
  replace HNq := Lib.hid (HNq.out.below hbl)
  replace Rr := Lib.hid (Rr.out.below hbl)
  replace HNr := Lib.hid (HNr.out.below hbl)
  replace HW := Lib.hid (bel_trans HW.out hbl); clear hbl
  have HNs := Lib.hid hns; clear hns
  obtain ⟨As, cs, rfl, hcs, hrs⟩ := HNs.out.row
  have Rs := Lib.hid hrs; clear hrs hcs
  rw [limbs0]
  go_wp2_with fail
  refine (bits_none A cap a _ RA.out LA.out HA0.out).mono ?_
  rintro e w5 ⟨rfl, hbl⟩
  replace RA := Lib.hid (RA.out.below hbl)
  replace RB := Lib.hid (RB.out.below hbl)
  replace T := Lib.hid (T.out.below hbl)
  replace Rq := Lib.hid (Rq.out.below hbl)
  replace HNq := Lib.hid (HNq.out.below hbl)
  replace Rr := Lib.hid (Rr.out.below hbl)
  replace HNr := Lib.hid (HNr.out.below hbl)
  replace Rs := Lib.hid (Rs.out.below hbl)
  replace HNs := Lib.hid (HNs.out.below hbl)
  replace HW := Lib.hid (bel_trans HW.out hbl); clear hbl
  go_wp2_with fail
  refine (refRightR LA.out A cap _ RA.out).mono ?_
  rintro e w6 ⟨rfl, hbl⟩
  replace RA := Lib.hid (RA.out.below hbl)
  replace RB := Lib.hid (RB.out.below hbl)
  replace T := Lib.hid (T.out.below hbl)
  replace Rq := Lib.hid (Rq.out.below hbl)
  replace HNq := Lib.hid (HNq.out.below hbl)
  replace Rr := Lib.hid (Rr.out.below hbl)
  replace HNr := Lib.hid (HNr.out.below hbl)
  replace Rs := Lib.hid (Rs.out.below hbl)
  replace HNs := Lib.hid (HNs.out.below hbl)
  replace HW := Lib.hid (bel_trans HW.out hbl); clear hbl
  go_wp2_with fail
  refine (text_num A cap a _ RA.out LA.out).mono ?_
  rintro e w7 ⟨rfl, hbl⟩
  replace RA := Lib.hid (RA.out.below hbl)
  replace RB := Lib.hid (RB.out.below hbl)
  replace T := Lib.hid (T.out.below hbl)
  replace Rq := Lib.hid (Rq.out.below hbl)
  replace HNq := Lib.hid (HNq.out.below hbl)
  replace Rr := Lib.hid (Rr.out.below hbl)
  replace HNr := Lib.hid (HNr.out.below hbl)
  replace Rs := Lib.hid (Rs.out.below hbl)
  replace HNs := Lib.hid (HNs.out.below hbl)
  replace HW := Lib.hid (bel_trans HW.out hbl); clear hbl
  go_wp2_with fail
  refine (power_is 0 1 _ rfl (by decide)).mono ?_
  rintro e w8 ⟨rfl, hbl⟩
  replace RA := Lib.hid (RA.out.below hbl)
  replace RB := Lib.hid (RB.out.below hbl)
  replace T := Lib.hid (T.out.below hbl)
  replace Rq := Lib.hid (Rq.out.below hbl)
  replace HNq := Lib.hid (HNq.out.below hbl)
  replace Rr := Lib.hid (Rr.out.below hbl)
  replace HNr := Lib.hid (HNr.out.below hbl)
  replace Rs := Lib.hid (Rs.out.below hbl)
  replace HNs := Lib.hid (HNs.out.below hbl)
  replace HW := Lib.hid (bel_trans HW.out hbl); clear hbl
  go_wp2_with fail
  refine (refCmp_bb a 1 _).mono ?_
  rintro e w9 ⟨rfl, hbl⟩
  replace RA := Lib.hid (RA.out.below hbl)
  replace RB := Lib.hid (RB.out.below hbl)
  replace T := Lib.hid (T.out.below hbl)
  replace Rq := Lib.hid (Rq.out.below hbl)
  replace HNq := Lib.hid (HNq.out.below hbl)
  replace Rr := Lib.hid (Rr.out.below hbl)
  replace HNr := Lib.hid (HNr.out.below hbl)
  replace Rs := Lib.hid (Rs.out.below hbl)
  replace HNs := Lib.hid (HNs.out.below hbl)
  replace HW := Lib.hid (bel_trans HW.out hbl); clear hbl
  rw [show cmpI (a : Int) ((1 : Nat) : Int) = -1 from cmpI_lt (by have := HA0.out; omega)]
  go_wp2_with fail
  refine (refRight_bb A' cap' [] _ RdL.nil (by decide)).mono ?_
  rintro e w10 ⟨rfl, hbl⟩
  replace RA := Lib.hid (RA.out.below hbl)
  replace RB := Lib.hid (RB.out.below hbl)
  replace T := Lib.hid (T.out.below hbl)
  replace Rq := Lib.hid (Rq.out.below hbl)
  replace HNq := Lib.hid (HNq.out.below hbl)
  replace Rr := Lib.hid (Rr.out.below hbl)
  replace HNr := Lib.hid (HNr.out.below hbl)
  replace Rs := Lib.hid (Rs.out.below hbl)
  replace HNs := Lib.hid (HNs.out.below hbl)
  replace HW := Lib.hid (bel_trans HW.out hbl); clear hbl
  rw [show rightL [] = true from rfl]
  go_wp2_with fail
  refine (alive_any _ T.out).mono ?_
  rintro e w11 ⟨rfl, hbl⟩
  replace RA := Lib.hid (RA.out.below hbl)
  replace RB := Lib.hid (RB.out.below hbl)
  replace T := Lib.hid (T.out.below hbl)
  replace Rq := Lib.hid (Rq.out.below hbl)
  replace HNq := Lib.hid (HNq.out.below hbl)
  replace Rr := Lib.hid (Rr.out.below hbl)
  replace HNr := Lib.hid (HNr.out.below hbl)
  replace Rs := Lib.hid (Rs.out.below hbl)
  replace HNs := Lib.hid (HNs.out.below hbl)
  replace HW := Lib.hid (bel_trans HW.out hbl); clear hbl
  go_wp2
  go_ret
  exact ⟨rfl, HW.out⟩

set_option maxRecDepth 100000 in
set_option maxHeartbeats 1000000 in
theorem parts_none_nilb (A A' : Option Addr) (cap cap' : Nat) (x0 y0 : List Nat) (i : Int) (a : Nat) (w : World) (h : RdL w A x0) (h' : RdL w A' y0) (hc : x0.length ≤ cap) (hc' : y0.length ≤ cap') (ht : Bases w) (ha : few x0 = limbs a) (ha2 : a < Top) (hb : few y0 = []) (hb2 : 0 < Top) (ha0 : a = 0) (hi : i < -600) :
    Calls Tryd.prog 4 #[.slice A x0.length cap, .slice A' y0.length cap', .int .i64 i] w (RetT w) := by
  have RA := Lib.hid (show RdL w A (few x0) from h.take 18); clear h
  have RB := Lib.hid (show RdL w A' (few y0) from h'.take 18); clear h'
  have T := Lib.hid ht; clear ht
  rw [ha] at RA
  have F1 := Lib.hid (And.intro hc ha); clear hc ha
  have LA := Lib.hid ha2; clear ha2
  rw [hb] at RB
  have F2 := Lib.hid (And.intro hc' hb); clear hc' hb
  have LB := Lib.hid hb2; clear hb2
  have HW := Lib.hid (bel_refl w)
  have HA0 := Lib.hid ha0; clear ha0
  go_enter Tryd.func4, Tryd.ntmps4
  go_wp2_with fail
  refine (few_is A cap x0 (limbs a) _ F1.out.1 F1.out.2).mono ?_
  rintro e w1 ⟨rfl, hbl⟩
  replace RA := Lib.hid (RA.out.below hbl)
  replace RB := Lib.hid (RB.out.below hbl)
  replace T := Lib.hid (T.out.below hbl)
  replace HW := Lib.hid (bel_trans HW.out hbl); clear hbl
  go_wp2_with fail
  refine (few_is A' cap' y0 [] _ F2.out.1 F2.out.2).mono ?_
  rintro e w2 ⟨rfl, hbl⟩
  replace RA := Lib.hid (RA.out.below hbl)
  replace RB := Lib.hid (RB.out.below hbl)
  replace T := Lib.hid (T.out.below hbl)
  replace HW := Lib.hid (bel_trans HW.out hbl); clear hbl
  rw [show ([] : List Nat).length = 0 from rfl]
  go_wp2_with fail
  refine (div_none A A' cap cap' a _ RA.out LA.out).mono ?_
  rintro e w3 ⟨vq, vr, rfl, hnq, hnr, hbl⟩
  replace RA := Lib.hid (RA.out.below hbl)
  replace RB := Lib.hid (RB.out.below hbl)
  replace T := Lib.hid (T.out.below hbl)
  replace HW := Lib.hid (bel_trans HW.out hbl); clear hbl
  have HNq := Lib.hid hnq; clear hnq
  obtain ⟨Aq, cq, rfl, hcq, hrq⟩ := HNq.out.row
  have Rq := Lib.hid hrq; clear hrq hcq
  have HNr := Lib.hid hnr; clear hnr
  obtain ⟨Ar, cr, rfl, hcr, hrr⟩ := HNr.out.row
  have Rr := Lib.hid hrr; clear hrr hcr
  rw [limbs0]
  go_wp2_with fail
  refine (shift_zero A cap a i _ RA.out LA.out HA0.out).mono ?_
  rintro e w4 ⟨vs, rfl, hns, hbl⟩
  replace RA := Lib.hid (RA.out.below hbl)
  replace RB := Lib.hid (RB.out.below hbl)
  replace T := Lib.hid (T.out.below hbl)
  replace Rq := Lib.hid (Rq.out.below hbl)
  replace HNq := Lib.hid (HNq.out.below hbl)
  replace Rr := Lib.hid (Rr.out.below hbl)
  replace HNr := Lib.hid (HNr.out.below hbl)
  replace HW := Lib.hid (bel_trans HW.out hbl); clear hbl
  have HNs := Lib.hid hns; clear hns
  obtain ⟨As, cs, rfl, hcs, hrs⟩ := HNs.out.row
  have Rs := Lib.hid hrs; clear hrs hcs
  rw [limbs0]
  go_wp2_with fail
  refine (bits_none A cap a _ RA.out LA.out HA0.out).mono ?_
  rintro e w5 ⟨rfl, hbl⟩
  replace RA := Lib.hid (RA.out.below hbl)
  replace RB := Lib.hid (RB.out.below hbl)
  replace T := Lib.hid (T.out.below hbl)
  replace Rq := Lib.hid (Rq.out.below hbl)
  replace HNq := Lib.hid (HNq.out.below hbl)
  replace Rr := Lib.hid (Rr.out.below hbl)
  replace HNr := Lib.hid (HNr.out.below hbl)
  replace Rs := Lib.hid (Rs.out.below hbl)
  replace HNs := Lib.hid (HNs.out.below hbl)
  replace HW := Lib.hid (bel_trans HW.out hbl); clear hbl
  go_wp2_with fail
  refine (refRightR LA.out A cap _ RA.out).mono ?_
  rintro e w6 ⟨rfl, hbl⟩
  replace RA := Lib.hid (RA.out.below hbl)
  replace RB := Lib.hid (RB.out.below hbl)
  replace T := Lib.hid (T.out.below hbl)
  replace Rq := Lib.hid (Rq.out.below hbl)
  replace HNq := Lib.hid (HNq.out.below hbl)
  replace Rr := Lib.hid (Rr.out.below hbl)
  replace HNr := Lib.hid (HNr.out.below hbl)
  replace Rs := Lib.hid (Rs.out.below hbl)
  replace HNs := Lib.hid (HNs.out.below hbl)
  replace HW := Lib.hid (bel_trans HW.out hbl); clear hbl
  go_wp2_with fail
  refine (text_num A cap a _ RA.out LA.out).mono ?_
  rintro e w7 ⟨rfl, hbl⟩
  replace RA := Lib.hid (RA.out.below hbl)
  replace RB := Lib.hid (RB.out.below hbl)
  replace T := Lib.hid (T.out.below hbl)
  replace Rq := Lib.hid (Rq.out.below hbl)
  replace HNq := Lib.hid (HNq.out.below hbl)
  replace Rr := Lib.hid (Rr.out.below hbl)
  replace HNr := Lib.hid (HNr.out.below hbl)
  replace Rs := Lib.hid (Rs.out.below hbl)
  replace HNs := Lib.hid (HNs.out.below hbl)
  replace HW := Lib.hid (bel_trans HW.out hbl); clear hbl
  go_wp2_with fail
  refine (power_is 0 1 _ rfl (by decide)).mono ?_
  rintro e w8 ⟨rfl, hbl⟩
  replace RA := Lib.hid (RA.out.below hbl)
  replace RB := Lib.hid (RB.out.below hbl)
  replace T := Lib.hid (T.out.below hbl)
  replace Rq := Lib.hid (Rq.out.below hbl)
  replace HNq := Lib.hid (HNq.out.below hbl)
  replace Rr := Lib.hid (Rr.out.below hbl)
  replace HNr := Lib.hid (HNr.out.below hbl)
  replace Rs := Lib.hid (Rs.out.below hbl)
  replace HNs := Lib.hid (HNs.out.below hbl)
  replace HW := Lib.hid (bel_trans HW.out hbl); clear hbl
  go_wp2_with fail
  refine (refCmp_bb a 1 _).mono ?_
  rintro e w9 ⟨rfl, hbl⟩
  replace RA := Lib.hid (RA.out.below hbl)
  replace RB := Lib.hid (RB.out.below hbl)
  replace T := Lib.hid (T.out.below hbl)
  replace Rq := Lib.hid (Rq.out.below hbl)
  replace HNq := Lib.hid (HNq.out.below hbl)
  replace Rr := Lib.hid (Rr.out.below hbl)
  replace HNr := Lib.hid (HNr.out.below hbl)
  replace Rs := Lib.hid (Rs.out.below hbl)
  replace HNs := Lib.hid (HNs.out.below hbl)
  replace HW := Lib.hid (bel_trans HW.out hbl); clear hbl
  rw [show cmpI (a : Int) ((1 : Nat) : Int) = -1 from cmpI_lt (by have := HA0.out; omega)]
  go_wp2_with fail
  refine (refRight_bb A' cap' [] _ RdL.nil (by decide)).mono ?_
  rintro e w10 ⟨rfl, hbl⟩
  replace RA := Lib.hid (RA.out.below hbl)
  replace RB := Lib.hid (RB.out.below hbl)
  replace T := Lib.hid (T.out.below hbl)
  replace Rq := Lib.hid (Rq.out.below hbl)
  replace HNq := Lib.hid (HNq.out.below hbl)
  replace Rr := Lib.hid (Rr.out.below hbl)
  replace HNr := Lib.hid (HNr.out.below hbl)
  replace Rs := Lib.hid (Rs.out.below hbl)
  replace HNs := Lib.hid (HNs.out.below hbl)
  replace HW := Lib.hid (bel_trans HW.out hbl); clear hbl
  rw [show rightL [] = true from rfl]
  go_wp2_with fail
  refine (alive_any _ T.out).mono ?_
  rintro e w11 ⟨rfl, hbl⟩
  replace RA := Lib.hid (RA.out.below hbl)
  replace RB := Lib.hid (RB.out.below hbl)
  replace T := Lib.hid (T.out.below hbl)
  replace Rq := Lib.hid (Rq.out.below hbl)
  replace HNq := Lib.hid (HNq.out.below hbl)
  replace Rr := Lib.hid (Rr.out.below hbl)
  replace HNr := Lib.hid (HNr.out.below hbl)
  replace Rs := Lib.hid (Rs.out.below hbl)
  replace HNs := Lib.hid (HNs.out.below hbl)
  replace HW := Lib.hid (bel_trans HW.out hbl); clear hbl
  go_wp2
  go_ret
  exact ⟨rfl, HW.out⟩

set_option maxRecDepth 100000 in
set_option maxHeartbeats 1000000 in
theorem parts_none_nilc (A A' : Option Addr) (cap cap' : Nat) (x0 y0 : List Nat) (i : Int) (a : Nat) (w : World) (h : RdL w A x0) (h' : RdL w A' y0) (hc : x0.length ≤ cap) (hc' : y0.length ≤ cap') (ht : Bases w) (ha : few x0 = limbs a) (ha2 : a < Top) (hb : few y0 = []) (hb2 : 0 < Top) (ha0 : a = 0) (hi : ¬ 600 < i) (hi2 : ¬ i < -600) :
    Calls Tryd.prog 4 #[.slice A x0.length cap, .slice A' y0.length cap', .int .i64 i] w (RetT w) := by
  have RA := Lib.hid (show RdL w A (few x0) from h.take 18); clear h
  have RB := Lib.hid (show RdL w A' (few y0) from h'.take 18); clear h'
  have T := Lib.hid ht; clear ht
  rw [ha] at RA
  have F1 := Lib.hid (And.intro hc ha); clear hc ha
  have LA := Lib.hid ha2; clear ha2
  rw [hb] at RB
  have F2 := Lib.hid (And.intro hc' hb); clear hc' hb
  have LB := Lib.hid hb2; clear hb2
  have HW := Lib.hid (bel_refl w)
  have HA0 := Lib.hid ha0; clear ha0
  go_enter Tryd.func4, Tryd.ntmps4
  go_wp2_with fail
  refine (few_is A cap x0 (limbs a) _ F1.out.1 F1.out.2).mono ?_
  rintro e w1 ⟨rfl, hbl⟩
  replace RA := Lib.hid (RA.out.below hbl)
  replace RB := Lib.hid (RB.out.below hbl)
  replace T := Lib.hid (T.out.below hbl)
  replace HW := Lib.hid (bel_trans HW.out hbl); clear hbl
  go_wp2_with fail
  refine (few_is A' cap' y0 [] _ F2.out.1 F2.out.2).mono ?_
  rintro e w2 ⟨rfl, hbl⟩
  replace RA := Lib.hid (RA.out.below hbl)
  replace RB := Lib.hid (RB.out.below hbl)
  replace T := Lib.hid (T.out.below hbl)
  replace HW := Lib.hid (bel_trans HW.out hbl); clear hbl
  rw [show ([] : List Nat).length = 0 from rfl]
  go_wp2_with fail
  refine (div_none A A' cap cap' a _ RA.out LA.out).mono ?_
  rintro e w3 ⟨vq, vr, rfl, hnq, hnr, hbl⟩
  replace RA := Lib.hid (RA.out.below hbl)
  replace RB := Lib.hid (RB.out.below hbl)
  replace T := Lib.hid (T.out.below hbl)
  replace HW := Lib.hid (bel_trans HW.out hbl); clear hbl
  have HNq := Lib.hid hnq; clear hnq
  obtain ⟨Aq, cq, rfl, hcq, hrq⟩ := HNq.out.row
  have Rq := Lib.hid hrq; clear hrq hcq
  have HNr := Lib.hid hnr; clear hnr
  obtain ⟨Ar, cr, rfl, hcr, hrr⟩ := HNr.out.row
  have Rr := Lib.hid hrr; clear hrr hcr
  rw [limbs0]
  go_wp2_with fail
  refine (shift_zero A cap a i _ RA.out LA.out HA0.out).mono ?_
  rintro e w4 ⟨vs, rfl, hns, hbl⟩
  replace RA := Lib.hid (RA.out.below hbl)
  replace RB := Lib.hid (RB.out.below hbl)
  replace T := Lib.hid (T.out.below hbl)
  replace Rq := Lib.hid (Rq.out.below hbl)
  replace HNq := Lib.hid (HNq.out.below hbl)
  replace Rr := Lib.hid (Rr.out.below hbl)
  replace HNr := Lib.hid (HNr.out.below hbl)
  replace HW := Lib.hid (bel_trans HW.out hbl); clear hbl
  have HNs := Lib.hid hns; clear hns
  obtain ⟨As, cs, rfl, hcs, hrs⟩ := HNs.out.row
  have Rs := Lib.hid hrs; clear hrs hcs
  rw [limbs0]
  go_wp2_with fail
  refine (bits_none A cap a _ RA.out LA.out HA0.out).mono ?_
  rintro e w5 ⟨rfl, hbl⟩
  replace RA := Lib.hid (RA.out.below hbl)
  replace RB := Lib.hid (RB.out.below hbl)
  replace T := Lib.hid (T.out.below hbl)
  replace Rq := Lib.hid (Rq.out.below hbl)
  replace HNq := Lib.hid (HNq.out.below hbl)
  replace Rr := Lib.hid (Rr.out.below hbl)
  replace HNr := Lib.hid (HNr.out.below hbl)
  replace Rs := Lib.hid (Rs.out.below hbl)
  replace HNs := Lib.hid (HNs.out.below hbl)
  replace HW := Lib.hid (bel_trans HW.out hbl); clear hbl
  go_wp2_with fail
  refine (refRightR LA.out A cap _ RA.out).mono ?_
  rintro e w6 ⟨rfl, hbl⟩
  replace RA := Lib.hid (RA.out.below hbl)
  replace RB := Lib.hid (RB.out.below hbl)
  replace T := Lib.hid (T.out.below hbl)
  replace Rq := Lib.hid (Rq.out.below hbl)
  replace HNq := Lib.hid (HNq.out.below hbl)
  replace Rr := Lib.hid (Rr.out.below hbl)
  replace HNr := Lib.hid (HNr.out.below hbl)
  replace Rs := Lib.hid (Rs.out.below hbl)
  replace HNs := Lib.hid (HNs.out.below hbl)
  replace HW := Lib.hid (bel_trans HW.out hbl); clear hbl
  go_wp2_with fail
  refine (text_num A cap a _ RA.out LA.out).mono ?_
  rintro e w7 ⟨rfl, hbl⟩
  replace RA := Lib.hid (RA.out.below hbl)
  replace RB := Lib.hid (RB.out.below hbl)
  replace T := Lib.hid (T.out.below hbl)
  replace Rq := Lib.hid (Rq.out.below hbl)
  replace HNq := Lib.hid (HNq.out.below hbl)
  replace Rr := Lib.hid (Rr.out.below hbl)
  replace HNr := Lib.hid (HNr.out.below hbl)
  replace Rs := Lib.hid (Rs.out.below hbl)
  replace HNs := Lib.hid (HNs.out.below hbl)
  replace HW := Lib.hid (bel_trans HW.out hbl); clear hbl
  go_wp2_with fail
  refine (power_is 0 1 _ rfl (by decide)).mono ?_
  rintro e w8 ⟨rfl, hbl⟩
  replace RA := Lib.hid (RA.out.below hbl)
  replace RB := Lib.hid (RB.out.below hbl)
  replace T := Lib.hid (T.out.below hbl)
  replace Rq := Lib.hid (Rq.out.below hbl)
  replace HNq := Lib.hid (HNq.out.below hbl)
  replace Rr := Lib.hid (Rr.out.below hbl)
  replace HNr := Lib.hid (HNr.out.below hbl)
  replace Rs := Lib.hid (Rs.out.below hbl)
  replace HNs := Lib.hid (HNs.out.below hbl)
  replace HW := Lib.hid (bel_trans HW.out hbl); clear hbl
  go_wp2_with fail
  refine (refCmp_bb a 1 _).mono ?_
  rintro e w9 ⟨rfl, hbl⟩
  replace RA := Lib.hid (RA.out.below hbl)
  replace RB := Lib.hid (RB.out.below hbl)
  replace T := Lib.hid (T.out.below hbl)
  replace Rq := Lib.hid (Rq.out.below hbl)
  replace HNq := Lib.hid (HNq.out.below hbl)
  replace Rr := Lib.hid (Rr.out.below hbl)
  replace HNr := Lib.hid (HNr.out.below hbl)
  replace Rs := Lib.hid (Rs.out.below hbl)
  replace HNs := Lib.hid (HNs.out.below hbl)
  replace HW := Lib.hid (bel_trans HW.out hbl); clear hbl
  rw [show cmpI (a : Int) ((1 : Nat) : Int) = -1 from cmpI_lt (by have := HA0.out; omega)]
  go_wp2_with fail
  refine (refRight_bb A' cap' [] _ RdL.nil (by decide)).mono ?_
  rintro e w10 ⟨rfl, hbl⟩
  replace RA := Lib.hid (RA.out.below hbl)
  replace RB := Lib.hid (RB.out.below hbl)
  replace T := Lib.hid (T.out.below hbl)
  replace Rq := Lib.hid (Rq.out.below hbl)
  replace HNq := Lib.hid (HNq.out.below hbl)
  replace Rr := Lib.hid (Rr.out.below hbl)
  replace HNr := Lib.hid (HNr.out.below hbl)
  replace Rs := Lib.hid (Rs.out.below hbl)
  replace HNs := Lib.hid (HNs.out.below hbl)
  replace HW := Lib.hid (bel_trans HW.out hbl); clear hbl
  rw [show rightL [] = true from rfl]
  go_wp2_with fail
  refine (alive_any _ T.out).mono ?_
  rintro e w11 ⟨rfl, hbl⟩
  replace RA := Lib.hid (RA.out.below hbl)
  replace RB := Lib.hid (RB.out.below hbl)
  replace T := Lib.hid (T.out.below hbl)
  replace Rq := Lib.hid (Rq.out.below hbl)
  replace HNq := Lib.hid (HNq.out.below hbl)
  replace Rr := Lib.hid (Rr.out.below hbl)
  replace HNr := Lib.hid (HNr.out.below hbl)
  replace Rs := Lib.hid (Rs.out.below hbl)
  replace HNs := Lib.hid (HNs.out.below hbl)
  replace HW := Lib.hid (bel_trans HW.out hbl); clear hbl
  go_wp2
  go_ret
  exact ⟨rfl, HW.out⟩

set_option maxRecDepth 100000 in
set_option maxHeartbeats 1000000 in
theorem parts_none_far (A A' : Option Addr) (cap cap' : Nat) (x0 y0 : List Nat) (i : Int) (a : Nat) (w : World) (h : RdL w A x0) (h' : RdL w A' y0) (hc : x0.length ≤ cap) (hc' : y0.length ≤ cap') (ht : Bases w) (ha : few x0 = limbs a) (ha2 : a < Top) (hb : few y0 = []) (hb2 : 0 < Top) (ha0 : a ≠ 0) (hi : 600 < i) :
    Calls Tryd.prog 4 #[.slice A x0.length cap, .slice A' y0.length cap', .int .i64 i] w (RetT w) := by
  have RA := Lib.hid (show RdL w A (few x0) from h.take 18); clear h
  have RB := Lib.hid (show RdL w A' (few y0) from h'.take 18); clear h'
  have T := Lib.hid ht; clear ht
  rw [ha] at RA
  have F1 := Lib.hid (And.intro hc ha); clear hc ha
  have LA := Lib.hid ha2; clear ha2
  rw [hb] at RB
  have F2 := Lib.hid (And.intro hc' hb); clear hc' hb
  have LB := Lib.hid hb2; clear hb2
  have HW := Lib.hid (bel_refl w)
  obtain ⟨k, nb, p1, p2, q1, q2, q3, q4, q5, q6, q7⟩ := bits_powers LA.out ha0
  have e1 : ¬ cmpI (a : Int) (p1 : Int) < 0 := by have := cmp_ge (a := a) (b := p1) (by omega); omega
  have e2 : cmpI (a : Int) (p2 : Int) = -1 := cmpI_lt (by omega)
  have hk1 : IntKind.i64.wrap ((nb : Int) - 1) = (k : Int) := by rw [IntKind.wrap_i64]; omega
  have hn0 : (0 : Int) < (nb : Int) := by omega
  have hk2 : k ≤ 1000 := by omega
  have hnz : ((nb : Int) == 0) = false := by simp; omega
  have hnz2 : ¬ ((nb : Int) = 0) := by omega
  have HA0 := Lib.hid ha0; clear ha0
  have HQ := Lib.hid (And.intro q1 (And.intro q2 (And.intro q4 (And.intro q5 (And.intro q6 q7))))); clear q1 q2 q4 q5 q6 q7
  go_enter Tryd.func4, Tryd.ntmps4
  go_wp2_with fail
  refine (few_is A cap x0 (limbs a) _ F1.out.1 F1.out.2).mono ?_
  rintro e w1 ⟨rfl, hbl⟩
  replace RA := Lib.hid (RA.out.below hbl)
  replace RB := Lib.hid (RB.out.below hbl)
  replace T := Lib.hid (T.out.below hbl)
  replace HW := Lib.hid (bel_trans HW.out hbl); clear hbl
  go_wp2_with fail
  refine (few_is A' cap' y0 [] _ F2.out.1 F2.out.2).mono ?_
  rintro e w2 ⟨rfl, hbl⟩
  replace RA := Lib.hid (RA.out.below hbl)
  replace RB := Lib.hid (RB.out.below hbl)
  replace T := Lib.hid (T.out.below hbl)
  replace HW := Lib.hid (bel_trans HW.out hbl); clear hbl
  rw [show ([] : List Nat).length = 0 from rfl]
  go_wp2_with fail
  refine (div_none A A' cap cap' a _ RA.out LA.out).mono ?_
  rintro e w3 ⟨vq, vr, rfl, hnq, hnr, hbl⟩
  replace RA := Lib.hid (RA.out.below hbl)
  replace RB := Lib.hid (RB.out.below hbl)
  replace T := Lib.hid (T.out.below hbl)
  replace HW := Lib.hid (bel_trans HW.out hbl); clear hbl
  have HNq := Lib.hid hnq; clear hnq
  obtain ⟨Aq, cq, rfl, hcq, hrq⟩ := HNq.out.row
  have Rq := Lib.hid hrq; clear hrq hcq
  have HNr := Lib.hid hnr; clear hnr
  obtain ⟨Ar, cr, rfl, hcr, hrr⟩ := HNr.out.row
  have Rr := Lib.hid hrr; clear hrr hcr
  rw [limbs0]
  go_wp2_with fail
  refine (shift_far A cap a i _ RA.out LA.out HA0.out hi).mono ?_
  rintro e w4 ⟨vs, rfl, hns, hbl⟩
  replace RA := Lib.hid (RA.out.below hbl)
  replace RB := Lib.hid (RB.out.below hbl)
  replace T := Lib.hid (T.out.below hbl)
  replace Rq := Lib.hid (Rq.out.below hbl)
  replace HNq := Lib.hid (HNq.out.below hbl)
  replace Rr := Lib.hid (Rr.out.below hbl)
  replace HNr := Lib.hid (HNr.out.below hbl)
  replace HW := Lib.hid (bel_trans HW.out hbl); clear hbl
  have HNs := Lib.hid hns; clear hns
  obtain ⟨As, cs, rfl, hcs, hrs⟩ := HNs.out.row
  have Rs := Lib.hid hrs; clear hrs hcs
  rw [limbs0]
  go_wp2_with fail
  refine (bits_is A cap a nb _ RA.out LA.out HQ.out.1).mono ?_
  rintro e w5 ⟨rfl, hbl⟩
  replace RA := Lib.hid (RA.out.below hbl)
  replace RB := Lib.hid (RB.out.below hbl)
  replace T := Lib.hid (T.out.below hbl)
  replace Rq := Lib.hid (Rq.out.below hbl)
  replace HNq := Lib.hid (HNq.out.below hbl)
  replace Rr := Lib.hid (Rr.out.below hbl)
  replace HNr := Lib.hid (HNr.out.below hbl)
  replace Rs := Lib.hid (Rs.out.below hbl)
  replace HNs := Lib.hid (HNs.out.below hbl)
  replace HW := Lib.hid (bel_trans HW.out hbl); clear hbl
  go_wp2_with fail
  refine (refRightR LA.out A cap _ RA.out).mono ?_
  rintro e w6 ⟨rfl, hbl⟩
  replace RA := Lib.hid (RA.out.below hbl)
  replace RB := Lib.hid (RB.out.below hbl)
  replace T := Lib.hid (T.out.below hbl)
  replace Rq := Lib.hid (Rq.out.below hbl)
  replace HNq := Lib.hid (HNq.out.below hbl)
  replace Rr := Lib.hid (Rr.out.below hbl)
  replace HNr := Lib.hid (HNr.out.below hbl)
  replace Rs := Lib.hid (Rs.out.below hbl)
  replace HNs := Lib.hid (HNs.out.below hbl)
  replace HW := Lib.hid (bel_trans HW.out hbl); clear hbl
  go_wp2_with fail
  refine (text_num A cap a _ RA.out LA.out).mono ?_
  rintro e w7 ⟨rfl, hbl⟩
  replace RA := Lib.hid (RA.out.below hbl)
  replace RB := Lib.hid (RB.out.below hbl)
  replace T := Lib.hid (T.out.below hbl)
  replace Rq := Lib.hid (Rq.out.below hbl)
  replace HNq := Lib.hid (HNq.out.below hbl)
  replace Rr := Lib.hid (Rr.out.below hbl)
  replace HNr := Lib.hid (HNr.out.below hbl)
  replace Rs := Lib.hid (Rs.out.below hbl)
  replace HNs := Lib.hid (HNs.out.below hbl)
  replace HW := Lib.hid (bel_trans HW.out hbl); clear hbl
  go_wp2_with fail
  refine (power_is k p1 _ HQ.out.2.2.1 (by omega)).mono ?_
  rintro e w8 ⟨rfl, hbl⟩
  replace RA := Lib.hid (RA.out.below hbl)
  replace RB := Lib.hid (RB.out.below hbl)
  replace T := Lib.hid (T.out.below hbl)
  replace Rq := Lib.hid (Rq.out.below hbl)
  replace HNq := Lib.hid (HNq.out.below hbl)
  replace Rr := Lib.hid (Rr.out.below hbl)
  replace HNr := Lib.hid (HNr.out.below hbl)
  replace Rs := Lib.hid (Rs.out.below hbl)
  replace HNs := Lib.hid (HNs.out.below hbl)
  replace HW := Lib.hid (bel_trans HW.out hbl); clear hbl
  go_wp2_with fail
  refine (refCmp_bb a p1 _).mono ?_
  rintro e w9 ⟨rfl, hbl⟩
  replace RA := Lib.hid (RA.out.below hbl)
  replace RB := Lib.hid (RB.out.below hbl)
  replace T := Lib.hid (T.out.below hbl)
  replace Rq := Lib.hid (Rq.out.below hbl)
  replace HNq := Lib.hid (HNq.out.below hbl)
  replace Rr := Lib.hid (Rr.out.below hbl)
  replace HNr := Lib.hid (HNr.out.below hbl)
  replace Rs := Lib.hid (Rs.out.below hbl)
  replace HNs := Lib.hid (HNs.out.below hbl)
  replace HW := Lib.hid (bel_trans HW.out hbl); clear hbl
  go_wp2_with fail
  refine (power_is nb p2 _ HQ.out.2.2.2.1 (by omega)).mono ?_
  rintro e w10 ⟨rfl, hbl⟩
  replace RA := Lib.hid (RA.out.below hbl)
  replace RB := Lib.hid (RB.out.below hbl)
  replace T := Lib.hid (T.out.below hbl)
  replace Rq := Lib.hid (Rq.out.below hbl)
  replace HNq := Lib.hid (HNq.out.below hbl)
  replace Rr := Lib.hid (Rr.out.below hbl)
  replace HNr := Lib.hid (HNr.out.below hbl)
  replace Rs := Lib.hid (Rs.out.below hbl)
  replace HNs := Lib.hid (HNs.out.below hbl)
  replace HW := Lib.hid (bel_trans HW.out hbl); clear hbl
  go_wp2_with fail
  refine (refCmp_bb a p2 _).mono ?_
  rintro e w11 ⟨rfl, hbl⟩
  replace RA := Lib.hid (RA.out.below hbl)
  replace RB := Lib.hid (RB.out.below hbl)
  replace T := Lib.hid (T.out.below hbl)
  replace Rq := Lib.hid (Rq.out.below hbl)
  replace HNq := Lib.hid (HNq.out.below hbl)
  replace Rr := Lib.hid (Rr.out.below hbl)
  replace HNr := Lib.hid (HNr.out.below hbl)
  replace Rs := Lib.hid (Rs.out.below hbl)
  replace HNs := Lib.hid (HNs.out.below hbl)
  replace HW := Lib.hid (bel_trans HW.out hbl); clear hbl
  go_wp2_with fail
  refine (refRight_bb A' cap' [] _ RdL.nil (by decide)).mono ?_
  rintro e w12 ⟨rfl, hbl⟩
  replace RA := Lib.hid (RA.out.below hbl)
  replace RB := Lib.hid (RB.out.below hbl)
  replace T := Lib.hid (T.out.below hbl)
  replace Rq := Lib.hid (Rq.out.below hbl)
  replace HNq := Lib.hid (HNq.out.below hbl)
  replace Rr := Lib.hid (Rr.out.below hbl)
  replace HNr := Lib.hid (HNr.out.below hbl)
  replace Rs := Lib.hid (Rs.out.below hbl)
  replace HNs := Lib.hid (HNs.out.below hbl)
  replace HW := Lib.hid (bel_trans HW.out hbl); clear hbl
  rw [show rightL [] = true from rfl]
  go_wp2_with fail
  refine (alive_any _ T.out).mono ?_
  rintro e w13 ⟨rfl, hbl⟩
  replace RA := Lib.hid (RA.out.below hbl)
  replace RB := Lib.hid (RB.out.below hbl)
  replace T := Lib.hid (T.out.below hbl)
  replace Rq := Lib.hid (Rq.out.below hbl)
  replace HNq := Lib.hid (HNq.out.below hbl)
  replace Rr := Lib.hid (Rr.out.below hbl)
  replace HNr := Lib.hid (HNr.out.below hbl)
  replace Rs := Lib.hid (Rs.out.below hbl)
  replace HNs := Lib.hid (HNs.out.below hbl)
  replace HW := Lib.hid (bel_trans HW.out hbl); clear hbl
  go_wp2
  go_ret
  exact ⟨rfl, HW.out⟩

set_option maxRecDepth 100000 in
set_option maxHeartbeats 1000000 in
theorem parts_none_gone (A A' : Option Addr) (cap cap' : Nat) (x0 y0 : List Nat) (i : Int) (a : Nat) (w : World) (h : RdL w A x0) (h' : RdL w A' y0) (hc : x0.length ≤ cap) (hc' : y0.length ≤ cap') (ht : Bases w) (ha : few x0 = limbs a) (ha2 : a < Top) (hb : few y0 = []) (hb2 : 0 < Top) (ha0 : a ≠ 0) (hi : i < -600) :
    Calls Tryd.prog 4 #[.slice A x0.length cap, .slice A' y0.length cap', .int .i64 i] w (RetT w) := by
  have RA := Lib.hid (show RdL w A (few x0) from h.take 18); clear h
  have RB := Lib.hid (show RdL w A' (few y0) from h'.take 18); clear h'
  have T := Lib.hid ht; clear ht
  rw [ha] at RA
  have F1 := Lib.hid (And.intro hc ha); clear hc ha
  have LA := Lib.hid ha2; clear ha2
  rw [hb] at RB
  have F2 := Lib.hid (And.intro hc' hb); clear hc' hb
  have LB := Lib.hid hb2; clear hb2
  have HW := Lib.hid (bel_refl w)
  obtain ⟨k, nb, p1, p2, q1, q2, q3, q4, q5, q6, q7⟩ := bits_powers LA.out ha0
  have e1 : ¬ cmpI (a : Int) (p1 : Int) < 0 := by have := cmp_ge (a := a) (b := p1) (by omega); omega
  have e2 : cmpI (a : Int) (p2 : Int) = -1 := cmpI_lt (by omega)
  have hk1 : IntKind.i64.wrap ((nb : Int) - 1) = (k : Int) := by rw [IntKind.wrap_i64]; omega
  have hn0 : (0 : Int) < (nb : Int) := by omega
  have hk2 : k ≤ 1000 := by omega
  have hnz : ((nb : Int) == 0) = false := by simp; omega
  have hnz2 : ¬ ((nb : Int) = 0) := by omega
  have HA0 := Lib.hid ha0; clear ha0
  have HQ := Lib.hid (And.intro q1 (And.intro q2 (And.intro q4 (And.intro q5 (And.intro q6 q7))))); clear q1 q2 q4 q5 q6 q7
  go_enter Tryd.func4, Tryd.ntmps4
  go_wp2_with fail
  refine (few_is A cap x0 (limbs a) _ F1.out.1 F1.out.2).mono ?_
  rintro e w1 ⟨rfl, hbl⟩
  replace RA := Lib.hid (RA.out.below hbl)
  replace RB := Lib.hid (RB.out.below hbl)
  replace T := Lib.hid (T.out.below hbl)
  replace HW := Lib.hid (bel_trans HW.out hbl); clear hbl
  go_wp2_with fail
  refine (few_is A' cap' y0 [] _ F2.out.1 F2.out.2).mono ?_
  rintro e w2 ⟨rfl, hbl⟩
  replace RA := Lib.hid (RA.out.below hbl)
  replace RB := Lib.hid (RB.out.below hbl)
  replace T := Lib.hid (T.out.below hbl)
  replace HW := Lib.hid (bel_trans HW.out hbl); clear hbl
  rw [show ([] : List Nat).length = 0 from rfl]
  go_wp2_with fail
  refine (div_none A A' cap cap' a _ RA.out LA.out).mono ?_
  rintro e w3 ⟨vq, vr, rfl, hnq, hnr, hbl⟩
  replace RA := Lib.hid (RA.out.below hbl)
  replace RB := Lib.hid (RB.out.below hbl)
  replace T := Lib.hid (T.out.below hbl)
  replace HW := Lib.hid (bel_trans HW.out hbl); clear hbl
  have HNq := Lib.hid hnq; clear hnq
  obtain ⟨Aq, cq, rfl, hcq, hrq⟩ := HNq.out.row
  have Rq := Lib.hid hrq; clear hrq hcq
  have HNr := Lib.hid hnr; clear hnr
  obtain ⟨Ar, cr, rfl, hcr, hrr⟩ := HNr.out.row
  have Rr := Lib.hid hrr; clear hrr hcr
  rw [limbs0]
  go_wp2_with fail
  refine (shift_gone A cap a i _ RA.out LA.out hi).mono ?_
  rintro e w4 ⟨vs, rfl, hns, hbl⟩
  replace RA := Lib.hid (RA.out.below hbl)
  replace RB := Lib.hid (RB.out.below hbl)
  replace T := Lib.hid (T.out.below hbl)
  replace Rq := Lib.hid (Rq.out.below hbl)
  replace HNq := Lib.hid (HNq.out.below hbl)
  replace Rr := Lib.hid (Rr.out.below hbl)
  replace HNr := Lib.hid (HNr.out.below hbl)
  replace HW := Lib.hid (bel_trans HW.out hbl); clear hbl
  have HNs := Lib.hid hns; clear hns
  obtain ⟨As, cs, rfl, hcs, hrs⟩ := HNs.out.row
  have Rs := Lib.hid hrs; clear hrs hcs
  rw [limbs0]
  go_wp2_with fail
  refine (bits_is A cap a nb _ RA.out LA.out HQ.out.1).mono ?_
  rintro e w5 ⟨rfl, hbl⟩
  replace RA := Lib.hid (RA.out.below hbl)
  replace RB := Lib.hid (RB.out.below hbl)
  replace T := Lib.hid (T.out.below hbl)
  replace Rq := Lib.hid (Rq.out.below hbl)
  replace HNq := Lib.hid (HNq.out.below hbl)
  replace Rr := Lib.hid (Rr.out.below hbl)
  replace HNr := Lib.hid (HNr.out.below hbl)
  replace Rs := Lib.hid (Rs.out.below hbl)
  replace HNs := Lib.hid (HNs.out.below hbl)
  replace HW := Lib.hid (bel_trans HW.out hbl); clear hbl
  go_wp2_with fail
  refine (refRightR LA.out A cap _ RA.out).mono ?_
  rintro e w6 ⟨rfl, hbl⟩
  replace RA := Lib.hid (RA.out.below hbl)
  replace RB := Lib.hid (RB.out.below hbl)
  replace T := Lib.hid (T.out.below hbl)
  replace Rq := Lib.hid (Rq.out.below hbl)
  replace HNq := Lib.hid (HNq.out.below hbl)
  replace Rr := Lib.hid (Rr.out.below hbl)
  replace HNr := Lib.hid (HNr.out.below hbl)
  replace Rs := Lib.hid (Rs.out.below hbl)
  replace HNs := Lib.hid (HNs.out.below hbl)
  replace HW := Lib.hid (bel_trans HW.out hbl); clear hbl
  go_wp2_with fail
  refine (text_num A cap a _ RA.out LA.out).mono ?_
  rintro e w7 ⟨rfl, hbl⟩
  replace RA := Lib.hid (RA.out.below hbl)
  replace RB := Lib.hid (RB.out.below hbl)
  replace T := Lib.hid (T.out.below hbl)
  replace Rq := Lib.hid (Rq.out.below hbl)
  replace HNq := Lib.hid (HNq.out.below hbl)
  replace Rr := Lib.hid (Rr.out.below hbl)
  replace HNr := Lib.hid (HNr.out.below hbl)
  replace Rs := Lib.hid (Rs.out.below hbl)
  replace HNs := Lib.hid (HNs.out.below hbl)
  replace HW := Lib.hid (bel_trans HW.out hbl); clear hbl
  go_wp2_with fail
  refine (power_is k p1 _ HQ.out.2.2.1 (by omega)).mono ?_
  rintro e w8 ⟨rfl, hbl⟩
  replace RA := Lib.hid (RA.out.below hbl)
  replace RB := Lib.hid (RB.out.below hbl)
  replace T := Lib.hid (T.out.below hbl)
  replace Rq := Lib.hid (Rq.out.below hbl)
  replace HNq := Lib.hid (HNq.out.below hbl)
  replace Rr := Lib.hid (Rr.out.below hbl)
  replace HNr := Lib.hid (HNr.out.below hbl)
  replace Rs := Lib.hid (Rs.out.below hbl)
  replace HNs := Lib.hid (HNs.out.below hbl)
  replace HW := Lib.hid (bel_trans HW.out hbl); clear hbl
  go_wp2_with fail
  refine (refCmp_bb a p1 _).mono ?_
  rintro e w9 ⟨rfl, hbl⟩
  replace RA := Lib.hid (RA.out.below hbl)
  replace RB := Lib.hid (RB.out.below hbl)
  replace T := Lib.hid (T.out.below hbl)
  replace Rq := Lib.hid (Rq.out.below hbl)
  replace HNq := Lib.hid (HNq.out.below hbl)
  replace Rr := Lib.hid (Rr.out.below hbl)
  replace HNr := Lib.hid (HNr.out.below hbl)
  replace Rs := Lib.hid (Rs.out.below hbl)
  replace HNs := Lib.hid (HNs.out.below hbl)
  replace HW := Lib.hid (bel_trans HW.out hbl); clear hbl
  go_wp2_with fail
  refine (power_is nb p2 _ HQ.out.2.2.2.1 (by omega)).mono ?_
  rintro e w10 ⟨rfl, hbl⟩
  replace RA := Lib.hid (RA.out.below hbl)
  replace RB := Lib.hid (RB.out.below hbl)
  replace T := Lib.hid (T.out.below hbl)
  replace Rq := Lib.hid (Rq.out.below hbl)
  replace HNq := Lib.hid (HNq.out.below hbl)
  replace Rr := Lib.hid (Rr.out.below hbl)
  replace HNr := Lib.hid (HNr.out.below hbl)
  replace Rs := Lib.hid (Rs.out.below hbl)
  replace HNs := Lib.hid (HNs.out.below hbl)
  replace HW := Lib.hid (bel_trans HW.out hbl); clear hbl
  go_wp2_with fail
  refine (refCmp_bb a p2 _).mono ?_
  rintro e w11 ⟨rfl, hbl⟩
  replace RA := Lib.hid (RA.out.below hbl)
  replace RB := Lib.hid (RB.out.below hbl)
  replace T := Lib.hid (T.out.below hbl)
  replace Rq := Lib.hid (Rq.out.below hbl)
  replace HNq := Lib.hid (HNq.out.below hbl)
  replace Rr := Lib.hid (Rr.out.below hbl)
  replace HNr := Lib.hid (HNr.out.below hbl)
  replace Rs := Lib.hid (Rs.out.below hbl)
  replace HNs := Lib.hid (HNs.out.below hbl)
  replace HW := Lib.hid (bel_trans HW.out hbl); clear hbl
  go_wp2_with fail
  refine (refRight_bb A' cap' [] _ RdL.nil (by decide)).mono ?_
  rintro e w12 ⟨rfl, hbl⟩
  replace RA := Lib.hid (RA.out.below hbl)
  replace RB := Lib.hid (RB.out.below hbl)
  replace T := Lib.hid (T.out.below hbl)
  replace Rq := Lib.hid (Rq.out.below hbl)
  replace HNq := Lib.hid (HNq.out.below hbl)
  replace Rr := Lib.hid (Rr.out.below hbl)
  replace HNr := Lib.hid (HNr.out.below hbl)
  replace Rs := Lib.hid (Rs.out.below hbl)
  replace HNs := Lib.hid (HNs.out.below hbl)
  replace HW := Lib.hid (bel_trans HW.out hbl); clear hbl
  rw [show rightL [] = true from rfl]
  go_wp2_with fail
  refine (alive_any _ T.out).mono ?_
  rintro e w13 ⟨rfl, hbl⟩
  replace RA := Lib.hid (RA.out.below hbl)
  replace RB := Lib.hid (RB.out.below hbl)
  replace T := Lib.hid (T.out.below hbl)
  replace Rq := Lib.hid (Rq.out.below hbl)
  replace HNq := Lib.hid (HNq.out.below hbl)
  replace Rr := Lib.hid (Rr.out.below hbl)
  replace HNr := Lib.hid (HNr.out.below hbl)
  replace Rs := Lib.hid (Rs.out.below hbl)
  replace HNs := Lib.hid (HNs.out.below hbl)
  replace HW := Lib.hid (bel_trans HW.out hbl); clear hbl
  go_wp2
  go_ret
  exact ⟨rfl, HW.out⟩

set_option maxRecDepth 100000 in
set_option maxHeartbeats 1000000 in
theorem parts_none_up (A A' : Option Addr) (cap cap' : Nat) (x0 y0 : List Nat) (i : Int) (a : Nat) (w : World) (h : RdL w A x0) (h' : RdL w A' y0) (hc : x0.length ≤ cap) (hc' : y0.length ≤ cap') (ht : Bases w) (ha : few x0 = limbs a) (ha2 : a < Top) (hb : few y0 = []) (hb2 : 0 < Top) (ha0 : a ≠ 0) (m : Nat) (him : i = (m : Int)) (hi : m ≤ 600) :
    Calls Tryd.prog 4 #[.slice A x0.length cap, .slice A' y0.length cap', .int .i64 i] w (RetT w) := by
  have RA := Lib.hid (show RdL w A (few x0) from h.take 18); clear h
  have RB := Lib.hid (show RdL w A' (few y0) from h'.take 18); clear h'
  have T := Lib.hid ht; clear ht
  rw [ha] at RA
  have F1 := Lib.hid (And.intro hc ha); clear hc ha
  have LA := Lib.hid ha2; clear ha2
  rw [hb] at RB
  have F2 := Lib.hid (And.intro hc' hb); clear hc' hb
  have LB := Lib.hid hb2; clear hb2
  have HW := Lib.hid (bel_refl w)
  subst him
  obtain ⟨p, hp⟩ : ∃ p, 2 ^ m = p := ⟨_, rfl⟩
  have hpl := power_len hp (by omega)
  have hpp : p ≠ 0 := by rw [← hp]; exact pow_ne m
  have HP := Lib.hid (And.intro hp (And.intro hpl hpp)); clear hp hpl hpp
  have i1 : ¬ 600 < (m : Int) := by omega
  have i2 : ¬ (m : Int) < -600 := by omega
  have i3 : (0 : Int) ≤ (m : Int) := by omega
  have i4 : ¬ (m : Int) < 0 := by omega
  obtain ⟨k, nb, p1, p2, q1, q2, q3, q4, q5, q6, q7⟩ := bits_powers LA.out ha0
  have e1 : ¬ cmpI (a : Int) (p1 : Int) < 0 := by have := cmp_ge (a := a) (b := p1) (by omega); omega
  have e2 : cmpI (a : Int) (p2 : Int) = -1 := cmpI_lt (by omega)
  have hk1 : IntKind.i64.wrap ((nb : Int) - 1) = (k : Int) := by rw [IntKind.wrap_i64]; omega
  have hn0 : (0 : Int) < (nb : Int) := by omega
  have hk2 : k ≤ 1000 := by omega
  have hnz : ((nb : Int) == 0) = false := by simp; omega
  have hnz2 : ¬ ((nb : Int) = 0) := by omega
  have HA0 := Lib.hid ha0; clear ha0
  have HQ := Lib.hid (And.intro q1 (And.intro q2 (And.intro q4 (And.intro q5 (And.intro q6 q7))))); clear q1 q2 q4 q5 q6 q7
  go_enter Tryd.func4, Tryd.ntmps4
  go_wp2_with fail
  refine (few_is A cap x0 (limbs a) _ F1.out.1 F1.out.2).mono ?_
  rintro e w1 ⟨rfl, hbl⟩
  replace RA := Lib.hid (RA.out.below hbl)
  replace RB := Lib.hid (RB.out.below hbl)
  replace T := Lib.hid (T.out.below hbl)
  replace HW := Lib.hid (bel_trans HW.out hbl); clear hbl
  go_wp2_with fail
  refine (few_is A' cap' y0 [] _ F2.out.1 F2.out.2).mono ?_
  rintro e w2 ⟨rfl, hbl⟩
  replace RA := Lib.hid (RA.out.below hbl)
  replace RB := Lib.hid (RB.out.below hbl)
  replace T := Lib.hid (T.out.below hbl)
  replace HW := Lib.hid (bel_trans HW.out hbl); clear hbl
  rw [show ([] : List Nat).length = 0 from rfl]
  go_wp2_with fail
  refine (div_none A A' cap cap' a _ RA.out LA.out).mono ?_
  rintro e w3 ⟨vq, vr, rfl, hnq, hnr, hbl⟩
  replace RA := Lib.hid (RA.out.below hbl)
  replace RB := Lib.hid (RB.out.below hbl)
  replace T := Lib.hid (T.out.below hbl)
  replace HW := Lib.hid (bel_trans HW.out hbl); clear hbl
  have HNq := Lib.hid hnq; clear hnq
  obtain ⟨Aq, cq, rfl, hcq, hrq⟩ := HNq.out.row
  have Rq := Lib.hid hrq; clear hrq hcq
  have HNr := Lib.hid hnr; clear hnr
  obtain ⟨Ar, cr, rfl, hcr, hrr⟩ := HNr.out.row
  have Rr := Lib.hid hrr; clear hrr hcr
  rw [limbs0]
  go_wp2_with fail
  refine (shift_up A cap a m _ RA.out LA.out).mono ?_
  rintro e w4 ⟨vs, rfl, hns, hbl⟩
  replace RA := Lib.hid (RA.out.below hbl)
  replace RB := Lib.hid (RB.out.below hbl)
  replace T := Lib.hid (T.out.below hbl)
  replace Rq := Lib.hid (Rq.out.below hbl)
  replace HNq := Lib.hid (HNq.out.below hbl)
  replace Rr := Lib.hid (Rr.out.below hbl)
  replace HNr := Lib.hid (HNr.out.below hbl)
  replace HW := Lib.hid (bel_trans HW.out hbl); clear hbl
  have HNs := Lib.hid hns; clear hns
  obtain ⟨As, cs, rfl, hcs, hrs⟩ := HNs.out.row
  have Rs := Lib.hid hrs; clear hrs hcs
  have E := Lib.hid HP.out.1
  rw [E.out] at HNs ⊢
  go_wp2_with fail
  refine (bits_is A cap a nb _ RA.out LA.out HQ.out.1).mono ?_
  rintro e w5 ⟨rfl, hbl⟩
  replace RA := Lib.hid (RA.out.below hbl)
  replace RB := Lib.hid (RB.out.below hbl)
  replace T := Lib.hid (T.out.below hbl)
  replace Rq := Lib.hid (Rq.out.below hbl)
  replace HNq := Lib.hid (HNq.out.below hbl)
  replace Rr := Lib.hid (Rr.out.below hbl)
  replace HNr := Lib.hid (HNr.out.below hbl)
  replace Rs := Lib.hid (Rs.out.below hbl)
  replace HNs := Lib.hid (HNs.out.below hbl)
  replace HW := Lib.hid (bel_trans HW.out hbl); clear hbl
  go_wp2_with fail
  refine (refRightR LA.out A cap _ RA.out).mono ?_
  rintro e w6 ⟨rfl, hbl⟩
  replace RA := Lib.hid (RA.out.below hbl)
  replace RB := Lib.hid (RB.out.below hbl)
  replace T := Lib.hid (T.out.below hbl)
  replace Rq := Lib.hid (Rq.out.below hbl)
  replace HNq := Lib.hid (HNq.out.below hbl)
  replace Rr := Lib.hid (Rr.out.below hbl)
  replace HNr := Lib.hid (HNr.out.below hbl)
  replace Rs := Lib.hid (Rs.out.below hbl)
  replace HNs := Lib.hid (HNs.out.below hbl)
  replace HW := Lib.hid (bel_trans HW.out hbl); clear hbl
  go_wp2_with fail
  refine (text_num A cap a _ RA.out LA.out).mono ?_
  rintro e w7 ⟨rfl, hbl⟩
  replace RA := Lib.hid (RA.out.below hbl)
  replace RB := Lib.hid (RB.out.below hbl)
  replace T := Lib.hid (T.out.below hbl)
  replace Rq := Lib.hid (Rq.out.below hbl)
  replace HNq := Lib.hid (HNq.out.below hbl)
  replace Rr := Lib.hid (Rr.out.below hbl)
  replace HNr := Lib.hid (HNr.out.below hbl)
  replace Rs := Lib.hid (Rs.out.below hbl)
  replace HNs := Lib.hid (HNs.out.below hbl)
  replace HW := Lib.hid (bel_trans HW.out hbl); clear hbl
  go_wp2_with fail
  refine (power_is k p1 _ HQ.out.2.2.1 (by omega)).mono ?_
  rintro e w8 ⟨rfl, hbl⟩
  replace RA := Lib.hid (RA.out.below hbl)
  replace RB := Lib.hid (RB.out.below hbl)
  replace T := Lib.hid (T.out.below hbl)
  replace Rq := Lib.hid (Rq.out.below hbl)
  replace HNq := Lib.hid (HNq.out.below hbl)
  replace Rr := Lib.hid (Rr.out.below hbl)
  replace HNr := Lib.hid (HNr.out.below hbl)
  replace Rs := Lib.hid (Rs.out.below hbl)
  replace HNs := Lib.hid (HNs.out.below hbl)
  replace HW := Lib.hid (bel_trans HW.out hbl); clear hbl
  go_wp2_with fail
  refine (refCmp_bb a p1 _).mono ?_
  rintro e w9 ⟨rfl, hbl⟩
  replace RA := Lib.hid (RA.out.below hbl)
  replace RB := Lib.hid (RB.out.below hbl)
  replace T := Lib.hid (T.out.below hbl)
  replace Rq := Lib.hid (Rq.out.below hbl)
  replace HNq := Lib.hid (HNq.out.below hbl)
  replace Rr := Lib.hid (Rr.out.below hbl)
  replace HNr := Lib.hid (HNr.out.below hbl)
  replace Rs := Lib.hid (Rs.out.below hbl)
  replace HNs := Lib.hid (HNs.out.below hbl)
  replace HW := Lib.hid (bel_trans HW.out hbl); clear hbl
  go_wp2_with fail
  refine (power_is nb p2 _ HQ.out.2.2.2.1 (by omega)).mono ?_
  rintro e w10 ⟨rfl, hbl⟩
  replace RA := Lib.hid (RA.out.below hbl)
  replace RB := Lib.hid (RB.out.below hbl)
  replace T := Lib.hid (T.out.below hbl)
  replace Rq := Lib.hid (Rq.out.below hbl)
  replace HNq := Lib.hid (HNq.out.below hbl)
  replace Rr := Lib.hid (Rr.out.below hbl)
  replace HNr := Lib.hid (HNr.out.below hbl)
  replace Rs := Lib.hid (Rs.out.below hbl)
  replace HNs := Lib.hid (HNs.out.below hbl)
  replace HW := Lib.hid (bel_trans HW.out hbl); clear hbl
  go_wp2_with fail
  refine (refCmp_bb a p2 _).mono ?_
  rintro e w11 ⟨rfl, hbl⟩
  replace RA := Lib.hid (RA.out.below hbl)
  replace RB := Lib.hid (RB.out.below hbl)
  replace T := Lib.hid (T.out.below hbl)
  replace Rq := Lib.hid (Rq.out.below hbl)
  replace HNq := Lib.hid (HNq.out.below hbl)
  replace Rr := Lib.hid (Rr.out.below hbl)
  replace HNr := Lib.hid (HNr.out.below hbl)
  replace Rs := Lib.hid (Rs.out.below hbl)
  replace HNs := Lib.hid (HNs.out.below hbl)
  replace HW := Lib.hid (bel_trans HW.out hbl); clear hbl
  go_wp2_with fail
  refine (power_is m p _ HP.out.1 (by omega)).mono ?_
  rintro e w12 ⟨rfl, hbl⟩
  replace RA := Lib.hid (RA.out.below hbl)
  replace RB := Lib.hid (RB.out.below hbl)
  replace T := Lib.hid (T.out.below hbl)
  replace Rq := Lib.hid (Rq.out.below hbl)
  replace HNq := Lib.hid (HNq.out.below hbl)
  replace Rr := Lib.hid (Rr.out.below hbl)
  replace HNr := Lib.hid (HNr.out.below hbl)
  replace Rs := Lib.hid (Rs.out.below hbl)
  replace HNs := Lib.hid (HNs.out.below hbl)
  replace HW := Lib.hid (bel_trans HW.out hbl); clear hbl
  go_wp2_with fail
  refine (refMul_any a p _ (by have := decL_top LA.out; omega) (by have := HP.out.2.1; omega)).mono ?_
  rintro e w13 ⟨rfl, hbl⟩
  replace RA := Lib.hid (RA.out.below hbl)
  replace RB := Lib.hid (RB.out.below hbl)
  replace T := Lib.hid (T.out.below hbl)
  replace Rq := Lib.hid (Rq.out.below hbl)
  replace HNq := Lib.hid (HNq.out.below hbl)
  replace Rr := Lib.hid (Rr.out.below hbl)
  replace HNr := Lib.hid (HNr.out.below hbl)
  replace Rs := Lib.hid (Rs.out.below hbl)
  replace HNs := Lib.hid (HNs.out.below hbl)
  replace HW := Lib.hid (bel_trans HW.out hbl); clear hbl
  go_wp2_with fail
  refine (is_any _ (a * p) _ _ HNs.out rfl).mono ?_
  rintro e w14 ⟨rfl, hbl⟩
  replace RA := Lib.hid (RA.out.below hbl)
  replace RB := Lib.hid (RB.out.below hbl)
  replace T := Lib.hid (T.out.below hbl)
  replace Rq := Lib.hid (Rq.out.below hbl)
  replace HNq := Lib.hid (HNq.out.below hbl)
  replace Rr := Lib.hid (Rr.out.below hbl)
  replace HNr := Lib.hid (HNr.out.below hbl)
  replace Rs := Lib.hid (Rs.out.below hbl)
  replace HNs := Lib.hid (HNs.out.below hbl)
  replace HW := Lib.hid (bel_trans HW.out hbl); clear hbl
  go_wp2_with fail
  refine (refRight_bb A' cap' [] _ RdL.nil (by decide)).mono ?_
  rintro e w15 ⟨rfl, hbl⟩
  replace RA := Lib.hid (RA.out.below hbl)
  replace RB := Lib.hid (RB.out.below hbl)
  replace T := Lib.hid (T.out.below hbl)
  replace Rq := Lib.hid (Rq.out.below hbl)
  replace HNq := Lib.hid (HNq.out.below hbl)
  replace Rr := Lib.hid (Rr.out.below hbl)
  replace HNr := Lib.hid (HNr.out.below hbl)
  replace Rs := Lib.hid (Rs.out.below hbl)
  replace HNs := Lib.hid (HNs.out.below hbl)
  replace HW := Lib.hid (bel_trans HW.out hbl); clear hbl
  rw [show rightL [] = true from rfl]
  go_wp2_with fail
  refine (alive_any _ T.out).mono ?_
  rintro e w16 ⟨rfl, hbl⟩
  replace RA := Lib.hid (RA.out.below hbl)
  replace RB := Lib.hid (RB.out.below hbl)
  replace T := Lib.hid (T.out.below hbl)
  replace Rq := Lib.hid (Rq.out.below hbl)
  replace HNq := Lib.hid (HNq.out.below hbl)
  replace Rr := Lib.hid (Rr.out.below hbl)
  replace HNr := Lib.hid (HNr.out.below hbl)
  replace Rs := Lib.hid (Rs.out.below hbl)
  replace HNs := Lib.hid (HNs.out.below hbl)
  replace HW := Lib.hid (bel_trans HW.out hbl); clear hbl
  go_wp2
  go_ret
  exact ⟨rfl, HW.out⟩

set_option maxRecDepth 100000 in
set_option maxHeartbeats 1000000 in
theorem parts_none_down (A A' : Option Addr) (cap cap' : Nat) (x0 y0 : List Nat) (i : Int) (a : Nat) (w : World) (h : RdL w A x0) (h' : RdL w A' y0) (hc : x0.length ≤ cap) (hc' : y0.length ≤ cap') (ht : Bases w) (ha : few x0 = limbs a) (ha2 : a < Top) (hb : few y0 = []) (hb2 : 0 < Top) (ha0 : a ≠ 0) (m : Nat) (him : i = -(m : Int)) (hi : m ≤ 600) (hi0 : 0 < m) :
    Calls Tryd.prog 4 #[.slice A x0.length cap, .slice A' y0.length cap', .int .i64 i] w (RetT w) := by
  have RA := Lib.hid (show RdL w A (few x0) from h.take 18); clear h
  have RB := Lib.hid (show RdL w A' (few y0) from h'.take 18); clear h'
  have T := Lib.hid ht; clear ht
  rw [ha] at RA
  have F1 := Lib.hid (And.intro hc ha); clear hc ha
  have LA := Lib.hid ha2; clear ha2
  rw [hb] at RB
  have F2 := Lib.hid (And.intro hc' hb); clear hc' hb
  have LB := Lib.hid hb2; clear hb2
  have HW := Lib.hid (bel_refl w)
  subst him
  obtain ⟨p, hp⟩ : ∃ p, 2 ^ m = p := ⟨_, rfl⟩
  have hpl := power_len hp (by omega)
  have hpp : p ≠ 0 := by rw [← hp]; exact pow_ne m
  have HP := Lib.hid (And.intro hp (And.intro hpl hpp)); clear hp hpl hpp
  have i1 : ¬ 600 < -(m : Int) := by omega
  have i2 : ¬ -(m : Int) < -600 := by omega
  have i3 : ¬ (0 : Int) ≤ -(m : Int) := by omega
  have i4 : -(m : Int) < 0 := by omega
  have hneg : IntKind.i64.wrap (-(-(m : Int))) = (m : Int) := by rw [IntKind.wrap_i64]; omega
  have hneg2 : IntKind.i64.wrap (m : Int) = (m : Int) := by rw [IntKind.wrap_i64]; omega
  obtain ⟨k, nb, p1, p2, q1, q2, q3, q4, q5, q6, q7⟩ := bits_powers LA.out ha0
  have e1 : ¬ cmpI (a : Int) (p1 : Int) < 0 := by have := cmp_ge (a := a) (b := p1) (by omega); omega
  have e2 : cmpI (a : Int) (p2 : Int) = -1 := cmpI_lt (by omega)
  have hk1 : IntKind.i64.wrap ((nb : Int) - 1) = (k : Int) := by rw [IntKind.wrap_i64]; omega
  have hn0 : (0 : Int) < (nb : Int) := by omega
  have hk2 : k ≤ 1000 := by omega
  have hnz : ((nb : Int) == 0) = false := by simp; omega
  have hnz2 : ¬ ((nb : Int) = 0) := by omega
  have HA0 := Lib.hid ha0; clear ha0
  have HQ := Lib.hid (And.intro q1 (And.intro q2 (And.intro q4 (And.intro q5 (And.intro q6 q7))))); clear q1 q2 q4 q5 q6 q7
  have hfd := fun W => field_q (dec (a / p)) (dec (a % p)) W
  go_enter Tryd.func4, Tryd.ntmps4
  go_wp2_with fail
  refine (few_is A cap x0 (limbs a) _ F1.out.1 F1.out.2).mono ?_
  rintro e w1 ⟨rfl, hbl⟩
  replace RA := Lib.hid (RA.out.below hbl)
  replace RB := Lib.hid (RB.out.below hbl)
  replace T := Lib.hid (T.out.below hbl)
  replace HW := Lib.hid (bel_trans HW.out hbl); clear hbl
  go_wp2_with fail
  refine (few_is A' cap' y0 [] _ F2.out.1 F2.out.2).mono ?_
  rintro e w2 ⟨rfl, hbl⟩
  replace RA := Lib.hid (RA.out.below hbl)
  replace RB := Lib.hid (RB.out.below hbl)
  replace T := Lib.hid (T.out.below hbl)
  replace HW := Lib.hid (bel_trans HW.out hbl); clear hbl
  rw [show ([] : List Nat).length = 0 from rfl]
  go_wp2_with fail
  refine (div_none A A' cap cap' a _ RA.out LA.out).mono ?_
  rintro e w3 ⟨vq, vr, rfl, hnq, hnr, hbl⟩
  replace RA := Lib.hid (RA.out.below hbl)
  replace RB := Lib.hid (RB.out.below hbl)
  replace T := Lib.hid (T.out.below hbl)
  replace HW := Lib.hid (bel_trans HW.out hbl); clear hbl
  have HNq := Lib.hid hnq; clear hnq
  obtain ⟨Aq, cq, rfl, hcq, hrq⟩ := HNq.out.row
  have Rq := Lib.hid hrq; clear hrq hcq
  have HNr := Lib.hid hnr; clear hnr
  obtain ⟨Ar, cr, rfl, hcr, hrr⟩ := HNr.out.row
  have Rr := Lib.hid hrr; clear hrr hcr
  rw [limbs0]
  go_wp2_with fail
  refine (shift_downS A cap a m (a / p) _ RA.out LA.out (by rw [HP.out.1])).mono ?_
  rintro e w4 ⟨vs, rfl, hns, hbl⟩
  replace RA := Lib.hid (RA.out.below hbl)
  replace RB := Lib.hid (RB.out.below hbl)
  replace T := Lib.hid (T.out.below hbl)
  replace Rq := Lib.hid (Rq.out.below hbl)
  replace HNq := Lib.hid (HNq.out.below hbl)
  replace Rr := Lib.hid (Rr.out.below hbl)
  replace HNr := Lib.hid (HNr.out.below hbl)
  replace HW := Lib.hid (bel_trans HW.out hbl); clear hbl
  have HNs := Lib.hid hns; clear hns
  obtain ⟨As, cs, rfl, hcs, hrs⟩ := HNs.out.row
  have Rs := Lib.hid hrs; clear hrs hcs
  go_wp2_with fail
  refine (bits_is A cap a nb _ RA.out LA.out HQ.out.1).mono ?_
  rintro e w5 ⟨rfl, hbl⟩
  replace RA := Lib.hid (RA.out.below hbl)
  replace RB := Lib.hid (RB.out.below hbl)
  replace T := Lib.hid (T.out.below hbl)
  replace Rq := Lib.hid (Rq.out.below hbl)
  replace HNq := Lib.hid (HNq.out.below hbl)
  replace Rr := Lib.hid (Rr.out.below hbl)
  replace HNr := Lib.hid (HNr.out.below hbl)
  replace Rs := Lib.hid (Rs.out.below hbl)
  replace HNs := Lib.hid (HNs.out.below hbl)
  replace HW := Lib.hid (bel_trans HW.out hbl); clear hbl
  go_wp2_with fail
  refine (refRightR LA.out A cap _ RA.out).mono ?_
  rintro e w6 ⟨rfl, hbl⟩
  replace RA := Lib.hid (RA.out.below hbl)
  replace RB := Lib.hid (RB.out.below hbl)
  replace T := Lib.hid (T.out.below hbl)
  replace Rq := Lib.hid (Rq.out.below hbl)
  replace HNq := Lib.hid (HNq.out.below hbl)
  replace Rr := Lib.hid (Rr.out.below hbl)
  replace HNr := Lib.hid (HNr.out.below hbl)
  replace Rs := Lib.hid (Rs.out.below hbl)
  replace HNs := Lib.hid (HNs.out.below hbl)
  replace HW := Lib.hid (bel_trans HW.out hbl); clear hbl
  go_wp2_with fail
  refine (text_num A cap a _ RA.out LA.out).mono ?_
  rintro e w7 ⟨rfl, hbl⟩
  replace RA := Lib.hid (RA.out.below hbl)
  replace RB := Lib.hid (RB.out.below hbl)
  replace T := Lib.hid (T.out.below hbl)
  replace Rq := Lib.hid (Rq.out.below hbl)
  replace HNq := Lib.hid (HNq.out.below hbl)
  replace Rr := Lib.hid (Rr.out.below hbl)
  replace HNr := Lib.hid (HNr.out.below hbl)
  replace Rs := Lib.hid (Rs.out.below hbl)
  replace HNs := Lib.hid (HNs.out.below hbl)
  replace HW := Lib.hid (bel_trans HW.out hbl); clear hbl
  go_wp2_with fail
  refine (power_is k p1 _ HQ.out.2.2.1 (by omega)).mono ?_
  rintro e w8 ⟨rfl, hbl⟩
  replace RA := Lib.hid (RA.out.below hbl)
  replace RB := Lib.hid (RB.out.below hbl)
  replace T := Lib.hid (T.out.below hbl)
  replace Rq := Lib.hid (Rq.out.below hbl)
  replace HNq := Lib.hid (HNq.out.below hbl)
  replace Rr := Lib.hid (Rr.out.below hbl)
  replace HNr := Lib.hid (HNr.out.below hbl)
  replace Rs := Lib.hid (Rs.out.below hbl)
  replace HNs := Lib.hid (HNs.out.below hbl)
  replace HW := Lib.hid (bel_trans HW.out hbl); clear hbl
  go_wp2_with fail
  refine (refCmp_bb a p1 _).mono ?_
  rintro e w9 ⟨rfl, hbl⟩
  replace RA := Lib.hid (RA.out.below hbl)
  replace RB := Lib.hid (RB.out.below hbl)
  replace T := Lib.hid (T.out.below hbl)
  replace Rq := Lib.hid (Rq.out.below hbl)
  replace HNq := Lib.hid (HNq.out.below hbl)
  replace Rr := Lib.hid (Rr.out.below hbl)
  replace HNr := Lib.hid (HNr.out.below hbl)
  replace Rs := Lib.hid (Rs.out.below hbl)
  replace HNs := Lib.hid (HNs.out.below hbl)
  replace HW := Lib.hid (bel_trans HW.out hbl); clear hbl
  go_wp2_with fail
  refine (power_is nb p2 _ HQ.out.2.2.2.1 (by omega)).mono ?_
  rintro e w10 ⟨rfl, hbl⟩
  replace RA := Lib.hid (RA.out.below hbl)
  replace RB := Lib.hid (RB.out.below hbl)
  replace T := Lib.hid (T.out.below hbl)
  replace Rq := Lib.hid (Rq.out.below hbl)
  replace HNq := Lib.hid (HNq.out.below hbl)
  replace Rr := Lib.hid (Rr.out.below hbl)
  replace HNr := Lib.hid (HNr.out.below hbl)
  replace Rs := Lib.hid (Rs.out.below hbl)
  replace HNs := Lib.hid (HNs.out.below hbl)
  replace HW := Lib.hid (bel_trans HW.out hbl); clear hbl
  go_wp2_with fail
  refine (refCmp_bb a p2 _).mono ?_
  rintro e w11 ⟨rfl, hbl⟩
  replace RA := Lib.hid (RA.out.below hbl)
  replace RB := Lib.hid (RB.out.below hbl)
  replace T := Lib.hid (T.out.below hbl)
  replace Rq := Lib.hid (Rq.out.below hbl)
  replace HNq := Lib.hid (HNq.out.below hbl)
  replace Rr := Lib.hid (Rr.out.below hbl)
  replace HNr := Lib.hid (HNr.out.below hbl)
  replace Rs := Lib.hid (Rs.out.below hbl)
  replace HNs := Lib.hid (HNs.out.below hbl)
  replace HW := Lib.hid (bel_trans HW.out hbl); clear hbl
  go_wp2_with fail
  refine (power_is m p _ HP.out.1 (by omega)).mono ?_
  rintro e w12 ⟨rfl, hbl⟩
  replace RA := Lib.hid (RA.out.below hbl)
  replace RB := Lib.hid (RB.out.below hbl)
  replace T := Lib.hid (T.out.below hbl)
  replace Rq := Lib.hid (Rq.out.below hbl)
  replace HNq := Lib.hid (HNq.out.below hbl)
  replace Rr := Lib.hid (Rr.out.below hbl)
  replace HNr := Lib.hid (HNr.out.below hbl)
  replace Rs := Lib.hid (Rs.out.below hbl)
  replace HNs := Lib.hid (HNs.out.below hbl)
  replace HW := Lib.hid (bel_trans HW.out hbl); clear hbl
  go_wp2_with fail
  refine (refDiv_any a p _ (by have := decL_top LA.out; omega) (by have := HP.out.2.1; omega) HP.out.2.2).mono ?_
  rintro e w13 ⟨rfl, hbl⟩
  replace RA := Lib.hid (RA.out.below hbl)
  replace RB := Lib.hid (RB.out.below hbl)
  replace T := Lib.hid (T.out.below hbl)
  replace Rq := Lib.hid (Rq.out.below hbl)
  replace HNq := Lib.hid (HNq.out.below hbl)
  replace Rr := Lib.hid (Rr.out.below hbl)
  replace HNr := Lib.hid (HNr.out.below hbl)
  replace Rs := Lib.hid (Rs.out.below hbl)
  replace HNs := Lib.hid (HNs.out.below hbl)
  replace HW := Lib.hid (bel_trans HW.out hbl); clear hbl
  have QS := Lib.hid (fit_small (lt_top (Nat.div_le_self a p) LA.out))
  go_wp2_with fail
  refine (is_any _ (a / p) 0 _ (by rw [QS.out.1]; exact HNs.out) QS.out.2.symm).mono ?_
  rintro e w14 ⟨rfl, hbl⟩
  replace RA := Lib.hid (RA.out.below hbl)
  replace RB := Lib.hid (RB.out.below hbl)
  replace T := Lib.hid (T.out.below hbl)
  replace Rq := Lib.hid (Rq.out.below hbl)
  replace HNq := Lib.hid (HNq.out.below hbl)
  replace Rr := Lib.hid (Rr.out.below hbl)
  replace HNr := Lib.hid (HNr.out.below hbl)
  replace Rs := Lib.hid (Rs.out.below hbl)
  replace HNs := Lib.hid (HNs.out.below hbl)
  replace HW := Lib.hid (bel_trans HW.out hbl); clear hbl
  go_wp2_with fail
  refine (refRight_bb A' cap' [] _ RdL.nil (by decide)).mono ?_
  rintro e w15 ⟨rfl, hbl⟩
  replace RA := Lib.hid (RA.out.below hbl)
  replace RB := Lib.hid (RB.out.below hbl)
  replace T := Lib.hid (T.out.below hbl)
  replace Rq := Lib.hid (Rq.out.below hbl)
  replace HNq := Lib.hid (HNq.out.below hbl)
  replace Rr := Lib.hid (Rr.out.below hbl)
  replace HNr := Lib.hid (HNr.out.below hbl)
  replace Rs := Lib.hid (Rs.out.below hbl)
  replace HNs := Lib.hid (HNs.out.below hbl)
  replace HW := Lib.hid (bel_trans HW.out hbl); clear hbl
  rw [show rightL [] = true from rfl]
  go_wp2_with fail
  refine (alive_any _ T.out).mono ?_
  rintro e w16 ⟨rfl, hbl⟩
  replace RA := Lib.hid (RA.out.below hbl)
  replace RB := Lib.hid (RB.out.below hbl)
  replace T := Lib.hid (T.out.below hbl)
  replace Rq := Lib.hid (Rq.out.below hbl)
  replace HNq := Lib.hid (HNq.out.below hbl)
  replace Rr := Lib.hid (Rr.out.below hbl)
  replace HNr := Lib.hid (HNr.out.below hbl)
  replace Rs := Lib.hid (Rs.out.below hbl)
  replace HNs := Lib.hid (HNs.out.below hbl)
  replace HW := Lib.hid (bel_trans HW.out hbl); clear hbl
  go_wp2
  go_ret
  exact ⟨rfl, HW.out⟩

theorem parts_none_all (A A' : Option Addr) (cap cap' : Nat) (x0 y0 : List Nat) (i : Int) (a : Nat) (w : World) (h : RdL w A x0) (h' : RdL w A' y0) (hc : x0.length ≤ cap) (hc' : y0.length ≤ cap') (ht : Bases w) (ha : few x0 = limbs a) (ha2 : a < Top) (hb : few y0 = []) (hb2 : 0 < Top) :
    Calls Tryd.prog 4 #[.slice A x0.length cap, .slice A' y0.length cap', .int .i64 i] w (RetT w) := by
  by_cases ha0 : a = 0
  · by_cases h1 : 600 < i
    · exact parts_none_nila A A' cap cap' x0 y0 i a w h h' hc hc' ht ha ha2 hb hb2 ha0 h1
    · by_cases h2 : i < -600
      · exact parts_none_nilb A A' cap cap' x0 y0 i a w h h' hc hc' ht ha ha2 hb hb2 ha0 h2
      · exact parts_none_nilc A A' cap cap' x0 y0 i a w h h' hc hc' ht ha ha2 hb hb2 ha0 h1 h2
  · by_cases h1 : 600 < i
    · exact parts_none_far A A' cap cap' x0 y0 i a w h h' hc hc' ht ha ha2 hb hb2 ha0 h1
    · by_cases h2 : i < -600
      · exact parts_none_gone A A' cap cap' x0 y0 i a w h h' hc hc' ht ha ha2 hb hb2 ha0 h2
      · by_cases h3 : 0 ≤ i
        · exact parts_none_up A A' cap cap' x0 y0 i a w h h' hc hc' ht ha ha2 hb hb2 ha0 i.toNat (by omega) (by omega)
        · exact parts_none_down A A' cap cap' x0 y0 i a w h h' hc hc' ht ha ha2 hb hb2 ha0 (-i).toNat (by omega) (by omega) (by omega)

set_option maxRecDepth 100000 in
set_option maxHeartbeats 1000000 in
theorem parts_num_nila (A A' : Option Addr) (cap cap' : Nat) (x0 y0 : List Nat) (i : Int) (a b : Nat) (w : World) (h : RdL w A x0) (h' : RdL w A' y0) (hc : x0.length ≤ cap) (hc' : y0.length ≤ cap') (ht : Bases w) (ha : few x0 = limbs a) (ha2 : a < Top) (hb : few y0 = limbs b) (hb2 : b < Top) (hb0 : b ≠ 0) (ha0 : a = 0) (hi : 600 < i) :
    Calls Tryd.prog 4 #[.slice A x0.length cap, .slice A' y0.length cap', .int .i64 i] w (RetT w) := by
  have RA := Lib.hid (show RdL w A (few x0) from h.take 18); clear h
  have RB := Lib.hid (show RdL w A' (few y0) from h'.take 18); clear h'
  have T := Lib.hid ht; clear ht
  rw [ha] at RA
  have F1 := Lib.hid (And.intro hc ha); clear hc ha
  have LA := Lib.hid ha2; clear ha2
  rw [hb] at RB
  have F2 := Lib.hid (And.intro hc' hb); clear hc' hb
  have LB := Lib.hid hb2; clear hb2
  have hlb : ¬ (((limbs b).length : Int) = 0) := by have := digs_len_pos B32_two hb0; show ¬ (((digs B32 b).length : Nat) : Int) = 0; omega
  have HB0 := Lib.hid hb0; clear hb0
  have HW := Lib.hid (bel_refl w)
  have HA0 := Lib.hid ha0; clear ha0
  go_enter Tryd.func4, Tryd.ntmps4
  go_wp2_with fail
  refine (few_is A cap x0 (limbs a) _ F1.out.1 F1.out.2).mono ?_
  rintro e w1 ⟨rfl, hbl⟩
  replace RA := Lib.hid (RA.out.below hbl)
  replace RB := Lib.hid (RB.out.below hbl)
  replace T := Lib.hid (T.out.below hbl)
  replace HW := Lib.hid (bel_trans HW.out hbl); clear hbl
  go_wp2_with fail
  refine (few_is A' cap' y0 (limbs b) _ F2.out.1 F2.out.2).mono ?_
  rintro e w2 ⟨rfl, hbl⟩
  replace RA := Lib.hid (RA.out.below hbl)
  replace RB := Lib.hid (RB.out.below hbl)
  replace T := Lib.hid (T.out.below hbl)
  replace HW := Lib.hid (bel_trans HW.out hbl); clear hbl
  go_wp2_with fail
  refine (div_num A A' cap cap' a b _ RA.out RB.out LA.out LB.out HB0.out).mono ?_
  rintro e w3 ⟨vq, vr, rfl, hnq, hnr, hbl⟩
  replace RA := Lib.hid (RA.out.below hbl)
  replace RB := Lib.hid (RB.out.below hbl)
  replace T := Lib.hid (T.out.below hbl)
  replace HW := Lib.hid (bel_trans HW.out hbl); clear hbl
  have HNq := Lib.hid hnq; clear hnq
  obtain ⟨Aq, cq, rfl, hcq, hrq⟩ := HNq.out.row
  have Rq := Lib.hid hrq; clear hrq hcq
  have HNr := Lib.hid hnr; clear hnr
  obtain ⟨Ar, cr, rfl, hcr, hrr⟩ := HNr.out.row
  have Rr := Lib.hid hrr; clear hrr hcr
  go_wp2_with fail
  refine (shift_zero A cap a i _ RA.out LA.out HA0.out).mono ?_
  rintro e w4 ⟨vs, rfl, hns, hbl⟩
  replace RA := Lib.hid (RA.out.below hbl)
  replace RB := Lib.hid (RB.out.below hbl)
  replace T := Lib.hid (T.out.below hbl)
  replace Rq := Lib.hid (Rq.out.below hbl)
  replace HNq := Lib.hid (HNq.out.below hbl)
  replace Rr := Lib.hid (Rr.out.below hbl)
  replace HNr := Lib.hid (HNr.out.below hbl)
  replace HW := Lib.hid (bel_trans HW.out hbl); clear hbl
  have HNs := Lib.hid hns; clear hns
  obtain ⟨As, cs, rfl, hcs, hrs⟩ := HNs.out.row
  have Rs := Lib.hid hrs; clear hrs hcs
  rw [limbs0]
  go_wp2_with fail
  refine (bits_none A cap a _ RA.out LA.out HA0.out).mono ?_
  rintro e w5 ⟨rfl, hbl⟩
  replace RA := Lib.hid (RA.out.below hbl)
  replace RB := Lib.hid (RB.out.below hbl)
  replace T := Lib.hid (T.out.below hbl)
  replace Rq := Lib.hid (Rq.out.below hbl)
  replace HNq := Lib.hid (HNq.out.below hbl)
  replace Rr := Lib.hid (Rr.out.below hbl)
  replace HNr := Lib.hid (HNr.out.below hbl)
  replace Rs := Lib.hid (Rs.out.below hbl)
  replace HNs := Lib.hid (HNs.out.below hbl)
  replace HW := Lib.hid (bel_trans HW.out hbl); clear hbl
  go_wp2_with fail
  refine (refRightR LA.out A cap _ RA.out).mono ?_
  rintro e w6 ⟨rfl, hbl⟩
  replace RA := Lib.hid (RA.out.below hbl)
  replace RB := Lib.hid (RB.out.below hbl)
  replace T := Lib.hid (T.out.below hbl)
  replace Rq := Lib.hid (Rq.out.below hbl)
  replace HNq := Lib.hid (HNq.out.below hbl)
  replace Rr := Lib.hid (Rr.out.below hbl)
  replace HNr := Lib.hid (HNr.out.below hbl)
  replace Rs := Lib.hid (Rs.out.below hbl)
  replace HNs := Lib.hid (HNs.out.below hbl)
  replace HW := Lib.hid (bel_trans HW.out hbl); clear hbl
  go_wp2_with fail
  refine (text_num A cap a _ RA.out LA.out).mono ?_
  rintro e w7 ⟨rfl, hbl⟩
  replace RA := Lib.hid (RA.out.below hbl)
  replace RB := Lib.hid (RB.out.below hbl)
  replace T := Lib.hid (T.out.below hbl)
  replace Rq := Lib.hid (Rq.out.below hbl)
  replace HNq := Lib.hid (HNq.out.below hbl)
  replace Rr := Lib.hid (Rr.out.below hbl)
  replace HNr := Lib.hid (HNr.out.below hbl)
  replace Rs := Lib.hid (Rs.out.below hbl)
  replace HNs := Lib.hid (HNs.out.below hbl)
  replace HW := Lib.hid (bel_trans HW.out hbl); clear hbl
  go_wp2_with fail
  refine (power_is 0 1 _ rfl (by decide)).mono ?_
  rintro e w8 ⟨rfl, hbl⟩
  replace RA := Lib.hid (RA.out.below hbl)
  replace RB := Lib.hid (RB.out.below hbl)
  replace T := Lib.hid (T.out.below hbl)
  replace Rq := Lib.hid (Rq.out.below hbl)
  replace HNq := Lib.hid (HNq.out.below hbl)
  replace Rr := Lib.hid (Rr.out.below hbl)
  replace HNr := Lib.hid (HNr.out.below hbl)
  replace Rs := Lib.hid (Rs.out.below hbl)
  replace HNs := Lib.hid (HNs.out.below hbl)
  replace HW := Lib.hid (bel_trans HW.out hbl); clear hbl
  go_wp2_with fail
  refine (refCmp_bb a 1 _).mono ?_
  rintro e w9 ⟨rfl, hbl⟩
  replace RA := Lib.hid (RA.out.below hbl)
  replace RB := Lib.hid (RB.out.below hbl)
  replace T := Lib.hid (T.out.below hbl)
  replace Rq := Lib.hid (Rq.out.below hbl)
  replace HNq := Lib.hid (HNq.out.below hbl)
  replace Rr := Lib.hid (Rr.out.below hbl)
  replace HNr := Lib.hid (HNr.out.below hbl)
  replace Rs := Lib.hid (Rs.out.below hbl)
  replace HNs := Lib.hid (HNs.out.below hbl)
  replace HW := Lib.hid (bel_trans HW.out hbl); clear hbl
  rw [show cmpI (a : Int) ((1 : Nat) : Int) = -1 from cmpI_lt (by have := HA0.out; omega)]
  go_wp2_with fail
  refine (refRightR LB.out A' cap' _ RB.out).mono ?_
  rintro e w10 ⟨rfl, hbl⟩
  replace RA := Lib.hid (RA.out.below hbl)
  replace RB := Lib.hid (RB.out.below hbl)
  replace T := Lib.hid (T.out.below hbl)
  replace Rq := Lib.hid (Rq.out.below hbl)
  replace HNq := Lib.hid (HNq.out.below hbl)
  replace Rr := Lib.hid (Rr.out.below hbl)
  replace HNr := Lib.hid (HNr.out.below hbl)
  replace Rs := Lib.hid (Rs.out.below hbl)
  replace HNs := Lib.hid (HNs.out.below hbl)
  replace HW := Lib.hid (bel_trans HW.out hbl); clear hbl
  go_wp2_with fail
  refine (text_num A' cap' b _ RB.out LB.out).mono ?_
  rintro e w11 ⟨rfl, hbl⟩
  replace RA := Lib.hid (RA.out.below hbl)
  replace RB := Lib.hid (RB.out.below hbl)
  replace T := Lib.hid (T.out.below hbl)
  replace Rq := Lib.hid (Rq.out.below hbl)
  replace HNq := Lib.hid (HNq.out.below hbl)
  replace Rr := Lib.hid (Rr.out.below hbl)
  replace HNr := Lib.hid (HNr.out.below hbl)
  replace Rs := Lib.hid (Rs.out.below hbl)
  replace HNs := Lib.hid (HNs.out.below hbl)
  replace HW := Lib.hid (bel_trans HW.out hbl); clear hbl
  go_wp2_with fail
  refine (refDiv_any a b _ (by have := decL_top LA.out; omega) (by have := decL_top LB.out; omega) HB0.out).mono ?_
  rintro e w12 ⟨rfl, hbl⟩
  replace RA := Lib.hid (RA.out.below hbl)
  replace RB := Lib.hid (RB.out.below hbl)
  replace T := Lib.hid (T.out.below hbl)
  replace Rq := Lib.hid (Rq.out.below hbl)
  replace HNq := Lib.hid (HNq.out.below hbl)
  replace Rr := Lib.hid (Rr.out.below hbl)
  replace HNr := Lib.hid (HNr.out.below hbl)
  replace Rs := Lib.hid (Rs.out.below hbl)
  replace HNs := Lib.hid (HNs.out.below hbl)
  replace HW := Lib.hid (bel_trans HW.out hbl); clear hbl
  go_wp2_with fail
  have D := Lib.hid (DAt.new w12 (a / b) (a % b))
  have hbl := DAt.bel w12 (a / b) (a % b)
  generalize hwd : w12.alloc (.cells #[.string (dec (a / b)), .string (dec (a % b))] 51) = wd at D hbl ⊢
  replace RA := Lib.hid (RA.out.below hbl)
  replace RB := Lib.hid (RB.out.below hbl)
  replace T := Lib.hid (T.out.below hbl)
  replace Rq := Lib.hid (Rq.out.below hbl)
  replace HNq := Lib.hid (HNq.out.below hbl)
  replace Rr := Lib.hid (Rr.out.below hbl)
  replace HNr := Lib.hid (HNr.out.below hbl)
  replace Rs := Lib.hid (Rs.out.below hbl)
  replace HNs := Lib.hid (HNs.out.below hbl)
  replace HW := Lib.hid (bel_trans HW.out hbl); clear hbl hwd
  go_wp2_with fail
  refine (alive_any _ T.out).mono ?_
  rintro e w13 ⟨rfl, hbl⟩
  replace RA := Lib.hid (RA.out.below hbl)
  replace RB := Lib.hid (RB.out.below hbl)
  replace T := Lib.hid (T.out.below hbl)
  replace Rq := Lib.hid (Rq.out.below hbl)
  replace HNq := Lib.hid (HNq.out.below hbl)
  replace Rr := Lib.hid (Rr.out.below hbl)
  replace HNr := Lib.hid (HNr.out.below hbl)
  replace Rs := Lib.hid (Rs.out.below hbl)
  replace HNs := Lib.hid (HNs.out.below hbl)
  replace D := Lib.hid (D.out.below hbl)
  replace HW := Lib.hid (bel_trans HW.out hbl); clear hbl
  have Q1 := Lib.hid (fit_small (lt_top (Nat.div_le_self a b) LA.out))
  have Q2 := Lib.hid (fit_small (lt_top (Nat.mod_le a b) LA.out))
  have d0 := D.out.q
  go_wp2_with fail
  refine (is_any _ (a / b) 0 _ (by rw [Q1.out.1]; exact HNq.out) Q1.out.2.symm).mono ?_
  rintro e w14 ⟨rfl, hbl⟩
  replace RA := Lib.hid (RA.out.below hbl)
  replace RB := Lib.hid (RB.out.below hbl)
  replace T := Lib.hid (T.out.below hbl)
  replace Rq := Lib.hid (Rq.out.below hbl)
  replace HNq := Lib.hid (HNq.out.below hbl)
  replace Rr := Lib.hid (Rr.out.below hbl)
  replace HNr := Lib.hid (HNr.out.below hbl)
  replace Rs := Lib.hid (Rs.out.below hbl)
  replace HNs := Lib.hid (HNs.out.below hbl)
  replace D := Lib.hid (D.out.below hbl)
  replace HW := Lib.hid (bel_trans HW.out hbl); clear hbl
  clear d0
  have d1 := D.out.r
  go_wp2_with fail
  refine (is_any _ (a % b) 0 _ (by rw [Q2.out.1]; exact HNr.out) Q2.out.2.symm).mono ?_
  rintro e w15 ⟨rfl, hbl⟩
  replace RA := Lib.hid (RA.out.below hbl)
  replace RB := Lib.hid (RB.out.below hbl)
  replace T := Lib.hid (T.out.below hbl)
  replace Rq := Lib.hid (Rq.out.below hbl)
  replace HNq := Lib.hid (HNq.out.below hbl)
  replace Rr := Lib.hid (Rr.out.below hbl)
  replace HNr := Lib.hid (HNr.out.below hbl)
  replace Rs := Lib.hid (Rs.out.below hbl)
  replace HNs := Lib.hid (HNs.out.below hbl)
  replace D := Lib.hid (D.out.below hbl)
  replace HW := Lib.hid (bel_trans HW.out hbl); clear hbl
  go_wp2
  go_ret
  exact ⟨rfl, HW.out⟩

set_option maxRecDepth 100000 in
set_option maxHeartbeats 1000000 in
theorem parts_num_nilb (A A' : Option Addr) (cap cap' : Nat) (x0 y0 : List Nat) (i : Int) (a b : Nat) (w : World) (h : RdL w A x0) (h' : RdL w A' y0) (hc : x0.length ≤ cap) (hc' : y0.length ≤ cap') (ht : Bases w) (ha : few x0 = limbs a) (ha2 : a < Top) (hb : few y0 = limbs b) (hb2 : b < Top) (hb0 : b ≠ 0) (ha0 : a = 0) (hi : i < -600) :
    Calls Tryd.prog 4 #[.slice A x0.length cap, .slice A' y0.length cap', .int .i64 i] w (RetT w) := by
  have RA := Lib.hid (show RdL w A (few x0) from h.take 18); clear h
  have RB := Lib.hid (show RdL w A' (few y0) from h'.take 18); clear h'
  have T := Lib.hid ht; clear ht
  rw [ha] at RA
  have F1 := Lib.hid (And.intro hc ha); clear hc ha
  have LA := Lib.hid ha2; clear ha2
  rw [hb] at RB
  have F2 := Lib.hid (And.intro hc' hb); clear hc' hb
  have LB := Lib.hid hb2; clear hb2
  have hlb : ¬ (((limbs b).length : Int) = 0) := by have := digs_len_pos B32_two hb0; show ¬ (((digs B32 b).length : Nat) : Int) = 0; omega
  have HB0 := Lib.hid hb0; clear hb0
  have HW := Lib.hid (bel_refl w)
  have HA0 := Lib.hid ha0; clear ha0
  go_enter Tryd.func4, Tryd.ntmps4
  go_wp2_with fail
  refine (few_is A cap x0 (limbs a) _ F1.out.1 F1.out.2).mono ?_
  rintro e w1 ⟨rfl, hbl⟩
  replace RA := Lib.hid (RA.out.below hbl)
  replace RB := Lib.hid (RB.out.below hbl)
  replace T := Lib.hid (T.out.below hbl)
  replace HW := Lib.hid (bel_trans HW.out hbl); clear hbl
  go_wp2_with fail
  refine (few_is A' cap' y0 (limbs b) _ F2.out.1 F2.out.2).mono ?_
  rintro e w2 ⟨rfl, hbl⟩
  replace RA := Lib.hid (RA.out.below hbl)
  replace RB := Lib.hid (RB.out.below hbl)
  replace T := Lib.hid (T.out.below hbl)
  replace HW := Lib.hid (bel_trans HW.out hbl); clear hbl
  go_wp2_with fail
  refine (div_num A A' cap cap' a b _ RA.out RB.out LA.out LB.out HB0.out).mono ?_
  rintro e w3 ⟨vq, vr, rfl, hnq, hnr, hbl⟩
  replace RA := Lib.hid (RA.out.below hbl)
  replace RB := Lib.hid (RB.out.below hbl)
  replace T := Lib.hid (T.out.below hbl)
  replace HW := Lib.hid (bel_trans HW.out hbl); clear hbl
  have HNq := Lib.hid hnq; clear hnq
  obtain ⟨Aq, cq, rfl, hcq, hrq⟩ := HNq.out.row
  have Rq := Lib.hid hrq; clear hrq hcq
  have HNr := Lib.hid hnr; clear hnr
  obtain ⟨Ar, cr, rfl, hcr, hrr⟩ := HNr.out.row
  have Rr := Lib.hid hrr; clear hrr hcr
  go_wp2_with fail
  refine (shift_zero A cap a i _ RA.out LA.out HA0.out).mono ?_
  rintro e w4 ⟨vs, rfl, hns, hbl⟩
  replace RA := Lib.hid (RA.out.below hbl)
  replace RB := Lib.hid (RB.out.below hbl)
  replace T := Lib.hid (T.out.below hbl)
  replace Rq := Lib.hid (Rq.out.below hbl)
  replace HNq := Lib.hid (HNq.out.below hbl)
  replace Rr := Lib.hid (Rr.out.below hbl)
  replace HNr := Lib.hid (HNr.out.below hbl)
  replace HW := Lib.hid (bel_trans HW.out hbl); clear hbl
  have HNs := Lib.hid hns; clear hns
  obtain ⟨As, cs, rfl, hcs, hrs⟩ := HNs.out.row
  have Rs := Lib.hid hrs; clear hrs hcs
  rw [limbs0]
  go_wp2_with fail
  refine (bits_none A cap a _ RA.out LA.out HA0.out).mono ?_
  rintro e w5 ⟨rfl, hbl⟩
  replace RA := Lib.hid (RA.out.below hbl)
  replace RB := Lib.hid (RB.out.below hbl)
  replace T := Lib.hid (T.out.below hbl)
  replace Rq := Lib.hid (Rq.out.below hbl)
  replace HNq := Lib.hid (HNq.out.below hbl)
  replace Rr := Lib.hid (Rr.out.below hbl)
  replace HNr := Lib.hid (HNr.out.below hbl)
  replace Rs := Lib.hid (Rs.out.below hbl)
  replace HNs := Lib.hid (HNs.out.below hbl)
  replace HW := Lib.hid (bel_trans HW.out hbl); clear hbl
  go_wp2_with fail
  refine (refRightR LA.out A cap _ RA.out).mono ?_
  rintro e w6 ⟨rfl, hbl⟩
  replace RA := Lib.hid (RA.out.below hbl)
  replace RB := Lib.hid (RB.out.below hbl)
  replace T := Lib.hid (T.out.below hbl)
  replace Rq := Lib.hid (Rq.out.below hbl)
  replace HNq := Lib.hid (HNq.out.below hbl)
  replace Rr := Lib.hid (Rr.out.below hbl)
  replace HNr := Lib.hid (HNr.out.below hbl)
  replace Rs := Lib.hid (Rs.out.below hbl)
  replace HNs := Lib.hid (HNs.out.below hbl)
  replace HW := Lib.hid (bel_trans HW.out hbl); clear hbl
  go_wp2_with fail
  refine (text_num A cap a _ RA.out LA.out).mono ?_
  rintro e w7 ⟨rfl, hbl⟩
  replace RA := Lib.hid (RA.out.below hbl)
  replace RB := Lib.hid (RB.out.below hbl)
  replace T := Lib.hid (T.out.below hbl)
  replace Rq := Lib.hid (Rq.out.below hbl)
  replace HNq := Lib.hid (HNq.out.below hbl)
  replace Rr := Lib.hid (Rr.out.below hbl)
  replace HNr := Lib.hid (HNr.out.below hbl)
  replace Rs := Lib.hid (Rs.out.below hbl)
  replace HNs := Lib.hid (HNs.out.below hbl)
  replace HW := Lib.hid (bel_trans HW.out hbl); clear hbl
  go_wp2_with fail
  refine (power_is 0 1 _ rfl (by decide)).mono ?_
  rintro e w8 ⟨rfl, hbl⟩
  replace RA := Lib.hid (RA.out.below hbl)
  replace RB := Lib.hid (RB.out.below hbl)
  replace T := Lib.hid (T.out.below hbl)
  replace Rq := Lib.hid (Rq.out.below hbl)
  replace HNq := Lib.hid (HNq.out.below hbl)
  replace Rr := Lib.hid (Rr.out.below hbl)
  replace HNr := Lib.hid (HNr.out.below hbl)
  replace Rs := Lib.hid (Rs.out.below hbl)
  replace HNs := Lib.hid (HNs.out.below hbl)
  replace HW := Lib.hid (bel_trans HW.out hbl); clear hbl
  go_wp2_with fail
  refine (refCmp_bb a 1 _).mono ?_
  rintro e w9 ⟨rfl, hbl⟩
  replace RA := Lib.hid (RA.out.below hbl)
  replace RB := Lib.hid (RB.out.below hbl)
  replace T := Lib.hid (T.out.below hbl)
  replace Rq := Lib.hid (Rq.out.below hbl)
  replace HNq := Lib.hid (HNq.out.below hbl)
  replace Rr := Lib.hid (Rr.out.below hbl)
  replace HNr := Lib.hid (HNr.out.below hbl)
  replace Rs := Lib.hid (Rs.out.below hbl)
  replace HNs := Lib.hid (HNs.out.below hbl)
  replace HW := Lib.hid (bel_trans HW.out hbl); clear hbl
  rw [show cmpI (a : Int) ((1 : Nat) : Int) = -1 from cmpI_lt (by have := HA0.out; omega)]
  go_wp2_with fail
  refine (refRightR LB.out A' cap' _ RB.out).mono ?_
  rintro e w10 ⟨rfl, hbl⟩
  replace RA := Lib.hid (RA.out.below hbl)
  replace RB := Lib.hid (RB.out.below hbl)
  replace T := Lib.hid (T.out.below hbl)
  replace Rq := Lib.hid (Rq.out.below hbl)
  replace HNq := Lib.hid (HNq.out.below hbl)
  replace Rr := Lib.hid (Rr.out.below hbl)
  replace HNr := Lib.hid (HNr.out.below hbl)
  replace Rs := Lib.hid (Rs.out.below hbl)
  replace HNs := Lib.hid (HNs.out.below hbl)
  replace HW := Lib.hid (bel_trans HW.out hbl); clear hbl
  go_wp2_with fail
  refine (text_num A' cap' b _ RB.out LB.out).mono ?_
  rintro e w11 ⟨rfl, hbl⟩
  replace RA := Lib.hid (RA.out.below hbl)
  replace RB := Lib.hid (RB.out.below hbl)
  replace T := Lib.hid (T.out.below hbl)
  replace Rq := Lib.hid (Rq.out.below hbl)
  replace HNq := Lib.hid (HNq.out.below hbl)
  replace Rr := Lib.hid (Rr.out.below hbl)
  replace HNr := Lib.hid (HNr.out.below hbl)
  replace Rs := Lib.hid (Rs.out.below hbl)
  replace HNs := Lib.hid (HNs.out.below hbl)
  replace HW := Lib.hid (bel_trans HW.out hbl); clear hbl
  go_wp2_with fail
  refine (refDiv_any a b _ (by have := decL_top LA.out; omega) (by have := decL_top LB.out; omega) HB0.out).mono ?_
  rintro e w12 ⟨rfl, hbl⟩
  replace RA := Lib.hid (RA.out.below hbl)
  replace RB := Lib.hid (RB.out.below hbl)
  replace T := Lib.hid (T.out.below hbl)
  replace Rq := Lib.hid (Rq.out.below hbl)
  replace HNq := Lib.hid (HNq.out.below hbl)
  replace Rr := Lib.hid (Rr.out.below hbl)
  replace HNr := Lib.hid (HNr.out.below hbl)
  replace Rs := Lib.hid (Rs.out.below hbl)
  replace HNs := Lib.hid (HNs.out.below hbl)
  replace HW := Lib.hid (bel_trans HW.out hbl); clear hbl
  go_wp2_with fail
  have D := Lib.hid (DAt.new w12 (a / b) (a % b))
  have hbl := DAt.bel w12 (a / b) (a % b)
  generalize hwd : w12.alloc (.cells #[.string (dec (a / b)), .string (dec (a % b))] 51) = wd at D hbl ⊢
  replace RA := Lib.hid (RA.out.below hbl)
  replace RB := Lib.hid (RB.out.below hbl)
  replace T := Lib.hid (T.out.below hbl)
  replace Rq := Lib.hid (Rq.out.below hbl)
  replace HNq := Lib.hid (HNq.out.below hbl)
  replace Rr := Lib.hid (Rr.out.below hbl)
  replace HNr := Lib.hid (HNr.out.below hbl)
  replace Rs := Lib.hid (Rs.out.below hbl)
  replace HNs := Lib.hid (HNs.out.below hbl)
  replace HW := Lib.hid (bel_trans HW.out hbl); clear hbl hwd
  go_wp2_with fail
  refine (alive_any _ T.out).mono ?_
  rintro e w13 ⟨rfl, hbl⟩
  replace RA := Lib.hid (RA.out.below hbl)
  replace RB := Lib.hid (RB.out.below hbl)
  replace T := Lib.hid (T.out.below hbl)
  replace Rq := Lib.hid (Rq.out.below hbl)
  replace HNq := Lib.hid (HNq.out.below hbl)
  replace Rr := Lib.hid (Rr.out.below hbl)
  replace HNr := Lib.hid (HNr.out.below hbl)
  replace Rs := Lib.hid (Rs.out.below hbl)
  replace HNs := Lib.hid (HNs.out.below hbl)
  replace D := Lib.hid (D.out.below hbl)
  replace HW := Lib.hid (bel_trans HW.out hbl); clear hbl
  have Q1 := Lib.hid (fit_small (lt_top (Nat.div_le_self a b) LA.out))
  have Q2 := Lib.hid (fit_small (lt_top (Nat.mod_le a b) LA.out))
  have d0 := D.out.q
  go_wp2_with fail
  refine (is_any _ (a / b) 0 _ (by rw [Q1.out.1]; exact HNq.out) Q1.out.2.symm).mono ?_
  rintro e w14 ⟨rfl, hbl⟩
  replace RA := Lib.hid (RA.out.below hbl)
  replace RB := Lib.hid (RB.out.below hbl)
  replace T := Lib.hid (T.out.below hbl)
  replace Rq := Lib.hid (Rq.out.below hbl)
  replace HNq := Lib.hid (HNq.out.below hbl)
  replace Rr := Lib.hid (Rr.out.below hbl)
  replace HNr := Lib.hid (HNr.out.below hbl)
  replace Rs := Lib.hid (Rs.out.below hbl)
  replace HNs := Lib.hid (HNs.out.below hbl)
  replace D := Lib.hid (D.out.below hbl)
  replace HW := Lib.hid (bel_trans HW.out hbl); clear hbl
  clear d0
  have d1 := D.out.r
  go_wp2_with fail
  refine (is_any _ (a % b) 0 _ (by rw [Q2.out.1]; exact HNr.out) Q2.out.2.symm).mono ?_
  rintro e w15 ⟨rfl, hbl⟩
  replace RA := Lib.hid (RA.out.below hbl)
  replace RB := Lib.hid (RB.out.below hbl)
  replace T := Lib.hid (T.out.below hbl)
  replace Rq := Lib.hid (Rq.out.below hbl)
  replace HNq := Lib.hid (HNq.out.below hbl)
  replace Rr := Lib.hid (Rr.out.below hbl)
  replace HNr := Lib.hid (HNr.out.below hbl)
  replace Rs := Lib.hid (Rs.out.below hbl)
  replace HNs := Lib.hid (HNs.out.below hbl)
  replace D := Lib.hid (D.out.below hbl)
  replace HW := Lib.hid (bel_trans HW.out hbl); clear hbl
  go_wp2
  go_ret
  exact ⟨rfl, HW.out⟩

set_option maxRecDepth 100000 in
set_option maxHeartbeats 1000000 in
theorem parts_num_nilc (A A' : Option Addr) (cap cap' : Nat) (x0 y0 : List Nat) (i : Int) (a b : Nat) (w : World) (h : RdL w A x0) (h' : RdL w A' y0) (hc : x0.length ≤ cap) (hc' : y0.length ≤ cap') (ht : Bases w) (ha : few x0 = limbs a) (ha2 : a < Top) (hb : few y0 = limbs b) (hb2 : b < Top) (hb0 : b ≠ 0) (ha0 : a = 0) (hi : ¬ 600 < i) (hi2 : ¬ i < -600) :
    Calls Tryd.prog 4 #[.slice A x0.length cap, .slice A' y0.length cap', .int .i64 i] w (RetT w) := by
  have RA := Lib.hid (show RdL w A (few x0) from h.take 18); clear h
  have RB := Lib.hid (show RdL w A' (few y0) from h'.take 18); clear h'
  have T := Lib.hid ht; clear ht
  rw [ha] at RA
  have F1 := Lib.hid (And.intro hc ha); clear hc ha
  have LA := Lib.hid ha2; clear ha2
  rw [hb] at RB
  have F2 := Lib.hid (And.intro hc' hb); clear hc' hb
  have LB := Lib.hid hb2; clear hb2
  have hlb : ¬ (((limbs b).length : Int) = 0) := by have := digs_len_pos B32_two hb0; show ¬ (((digs B32 b).length : Nat) : Int) = 0; omega
  have HB0 := Lib.hid hb0; clear hb0
  have HW := Lib.hid (bel_refl w)
  have HA0 := Lib.hid ha0; clear ha0
  go_enter Tryd.func4, Tryd.ntmps4
  go_wp2_with fail
  refine (few_is A cap x0 (limbs a) _ F1.out.1 F1.out.2).mono ?_
  rintro e w1 ⟨rfl, hbl⟩
  replace RA := Lib.hid (RA.out.below hbl)
  replace RB := Lib.hid (RB.out.below hbl)
  replace T := Lib.hid (T.out.below hbl)
  replace HW := Lib.hid (bel_trans HW.out hbl); clear hbl
  go_wp2_with fail
  refine (few_is A' cap' y0 (limbs b) _ F2.out.1 F2.out.2).mono ?_
  rintro e w2 ⟨rfl, hbl⟩
  replace RA := Lib.hid (RA.out.below hbl)
  replace RB := Lib.hid (RB.out.below hbl)
  replace T := Lib.hid (T.out.below hbl)
  replace HW := Lib.hid (bel_trans HW.out hbl); clear hbl
  go_wp2_with fail
  refine (div_num A A' cap cap' a b _ RA.out RB.out LA.out LB.out HB0.out).mono ?_
  rintro e w3 ⟨vq, vr, rfl, hnq, hnr, hbl⟩
  replace RA := Lib.hid (RA.out.below hbl)
  replace RB := Lib.hid (RB.out.below hbl)
  replace T := Lib.hid (T.out.below hbl)
  replace HW := Lib.hid (bel_trans HW.out hbl); clear hbl
  have HNq := Lib.hid hnq; clear hnq
  obtain ⟨Aq, cq, rfl, hcq, hrq⟩ := HNq.out.row
  have Rq := Lib.hid hrq; clear hrq hcq
  have HNr := Lib.hid hnr; clear hnr
  obtain ⟨Ar, cr, rfl, hcr, hrr⟩ := HNr.out.row
  have Rr := Lib.hid hrr; clear hrr hcr
  go_wp2_with fail
  refine (shift_zero A cap a i _ RA.out LA.out HA0.out).mono ?_
  rintro e w4 ⟨vs, rfl, hns, hbl⟩
  replace RA := Lib.hid (RA.out.below hbl)
  replace RB := Lib.hid (RB.out.below hbl)
  replace T := Lib.hid (T.out.below hbl)
  replace Rq := Lib.hid (Rq.out.below hbl)
  replace HNq := Lib.hid (HNq.out.below hbl)
  replace Rr := Lib.hid (Rr.out.below hbl)
  replace HNr := Lib.hid (HNr.out.below hbl)
  replace HW := Lib.hid (bel_trans HW.out hbl); clear hbl
  have HNs := Lib.hid hns; clear hns
  obtain ⟨As, cs, rfl, hcs, hrs⟩ := HNs.out.row
  have Rs := Lib.hid hrs; clear hrs hcs
  rw [limbs0]
  go_wp2_with fail
  refine (bits_none A cap a _ RA.out LA.out HA0.out).mono ?_
  rintro e w5 ⟨rfl, hbl⟩
  replace RA := Lib.hid (RA.out.below hbl)
  replace RB := Lib.hid (RB.out.below hbl)
  replace T := Lib.hid (T.out.below hbl)
  replace Rq := Lib.hid (Rq.out.below hbl)
  replace HNq := Lib.hid (HNq.out.below hbl)
  replace Rr := Lib.hid (Rr.out.below hbl)
  replace HNr := Lib.hid (HNr.out.below hbl)
  replace Rs := Lib.hid (Rs.out.below hbl)
  replace HNs := Lib.hid (HNs.out.below hbl)
  replace HW := Lib.hid (bel_trans HW.out hbl); clear hbl
  go_wp2_with fail
  refine (refRightR LA.out A cap _ RA.out).mono ?_
  rintro e w6 ⟨rfl, hbl⟩
  replace RA := Lib.hid (RA.out.below hbl)
  replace RB := Lib.hid (RB.out.below hbl)
  replace T := Lib.hid (T.out.below hbl)
  replace Rq := Lib.hid (Rq.out.below hbl)
  replace HNq := Lib.hid (HNq.out.below hbl)
  replace Rr := Lib.hid (Rr.out.below hbl)
  replace HNr := Lib.hid (HNr.out.below hbl)
  replace Rs := Lib.hid (Rs.out.below hbl)
  replace HNs := Lib.hid (HNs.out.below hbl)
  replace HW := Lib.hid (bel_trans HW.out hbl); clear hbl
  go_wp2_with fail
  refine (text_num A cap a _ RA.out LA.out).mono ?_
  rintro e w7 ⟨rfl, hbl⟩
  replace RA := Lib.hid (RA.out.below hbl)
  replace RB := Lib.hid (RB.out.below hbl)
  replace T := Lib.hid (T.out.below hbl)
  replace Rq := Lib.hid (Rq.out.below hbl)
  replace HNq := Lib.hid (HNq.out.below hbl)
  replace Rr := Lib.hid (Rr.out.below hbl)
  replace HNr := Lib.hid (HNr.out.below hbl)
  replace Rs := Lib.hid (Rs.out.below hbl)
  replace HNs := Lib.hid (HNs.out.below hbl)
  replace HW := Lib.hid (bel_trans HW.out hbl); clear hbl
  go_wp2_with fail
  refine (power_is 0 1 _ rfl (by decide)).mono ?_
  rintro e w8 ⟨rfl, hbl⟩
  replace RA := Lib.hid (RA.out.below hbl)
  replace RB := Lib.hid (RB.out.below hbl)
  replace T := Lib.hid (T.out.below hbl)
  replace Rq := Lib.hid (Rq.out.below hbl)
  replace HNq := Lib.hid (HNq.out.below hbl)
  replace Rr := Lib.hid (Rr.out.below hbl)
  replace HNr := Lib.hid (HNr.out.below hbl)
  replace Rs := Lib.hid (Rs.out.below hbl)
  replace HNs := Lib.hid (HNs.out.below hbl)
  replace HW := Lib.hid (bel_trans HW.out hbl); clear hbl
  go_wp2_with fail
  refine (refCmp_bb a 1 _).mono ?_
  rintro e w9 ⟨rfl, hbl⟩
  replace RA := Lib.hid (RA.out.below hbl)
  replace RB := Lib.hid (RB.out.below hbl)
  replace T := Lib.hid (T.out.below hbl)
  replace Rq := Lib.hid (Rq.out.below hbl)
  replace HNq := Lib.hid (HNq.out.below hbl)
  replace Rr := Lib.hid (Rr.out.below hbl)
  replace HNr := Lib.hid (HNr.out.below hbl)
  replace Rs := Lib.hid (Rs.out.below hbl)
  replace HNs := Lib.hid (HNs.out.below hbl)
  replace HW := Lib.hid (bel_trans HW.out hbl); clear hbl
  rw [show cmpI (a : Int) ((1 : Nat) : Int) = -1 from cmpI_lt (by have := HA0.out; omega)]
  go_wp2_with fail
  refine (refRightR LB.out A' cap' _ RB.out).mono ?_
  rintro e w10 ⟨rfl, hbl⟩
  replace RA := Lib.hid (RA.out.below hbl)
  replace RB := Lib.hid (RB.out.below hbl)
  replace T := Lib.hid (T.out.below hbl)
  replace Rq := Lib.hid (Rq.out.below hbl)
  replace HNq := Lib.hid (HNq.out.below hbl)
  replace Rr := Lib.hid (Rr.out.below hbl)
  replace HNr := Lib.hid (HNr.out.below hbl)
  replace Rs := Lib.hid (Rs.out.below hbl)
  replace HNs := Lib.hid (HNs.out.below hbl)
  replace HW := Lib.hid (bel_trans HW.out hbl); clear hbl
  go_wp2_with fail
  refine (text_num A' cap' b _ RB.out LB.out).mono ?_
  rintro e w11 ⟨rfl, hbl⟩
  replace RA := Lib.hid (RA.out.below hbl)
  replace RB := Lib.hid (RB.out.below hbl)
  replace T := Lib.hid (T.out.below hbl)
  replace Rq := Lib.hid (Rq.out.below hbl)
  replace HNq := Lib.hid (HNq.out.below hbl)
  replace Rr := Lib.hid (Rr.out.below hbl)
  replace HNr := Lib.hid (HNr.out.below hbl)
  replace Rs := Lib.hid (Rs.out.below hbl)
  replace HNs := Lib.hid (HNs.out.below hbl)
  replace HW := Lib.hid (bel_trans HW.out hbl); clear hbl
  go_wp2_with fail
  refine (refDiv_any a b _ (by have := decL_top LA.out; omega) (by have := decL_top LB.out; omega) HB0.out).mono ?_
  rintro e w12 ⟨rfl, hbl⟩
  replace RA := Lib.hid (RA.out.below hbl)
  replace RB := Lib.hid (RB.out.below hbl)
  replace T := Lib.hid (T.out.below hbl)
  replace Rq := Lib.hid (Rq.out.below hbl)
  replace HNq := Lib.hid (HNq.out.below hbl)
  replace Rr := Lib.hid (Rr.out.below hbl)
  replace HNr := Lib.hid (HNr.out.below hbl)
  replace Rs := Lib.hid (Rs.out.below hbl)
  replace HNs := Lib.hid (HNs.out.below hbl)
  replace HW := Lib.hid (bel_trans HW.out hbl); clear hbl
  go_wp2_with fail
  have D := Lib.hid (DAt.new w12 (a / b) (a % b))
  have hbl := DAt.bel w12 (a / b) (a % b)
  generalize hwd : w12.alloc (.cells #[.string (dec (a / b)), .string (dec (a % b))] 51) = wd at D hbl ⊢
  replace RA := Lib.hid (RA.out.below hbl)
  replace RB := Lib.hid (RB.out.below hbl)
  replace T := Lib.hid (T.out.below hbl)
  replace Rq := Lib.hid (Rq.out.below hbl)
  replace HNq := Lib.hid (HNq.out.below hbl)
  replace Rr := Lib.hid (Rr.out.below hbl)
  replace HNr := Lib.hid (HNr.out.below hbl)
  replace Rs := Lib.hid (Rs.out.below hbl)
  replace HNs := Lib.hid (HNs.out.below hbl)
  replace HW := Lib.hid (bel_trans HW.out hbl); clear hbl hwd
  go_wp2_with fail
  refine (alive_any _ T.out).mono ?_
  rintro e w13 ⟨rfl, hbl⟩
  replace RA := Lib.hid (RA.out.below hbl)
  replace RB := Lib.hid (RB.out.below hbl)
  replace T := Lib.hid (T.out.below hbl)
  replace Rq := Lib.hid (Rq.out.below hbl)
  replace HNq := Lib.hid (HNq.out.below hbl)
  replace Rr := Lib.hid (Rr.out.below hbl)
  replace HNr := Lib.hid (HNr.out.below hbl)
  replace Rs := Lib.hid (Rs.out.below hbl)
  replace HNs := Lib.hid (HNs.out.below hbl)
  replace D := Lib.hid (D.out.below hbl)
  replace HW := Lib.hid (bel_trans HW.out hbl); clear hbl
  have Q1 := Lib.hid (fit_small (lt_top (Nat.div_le_self a b) LA.out))
  have Q2 := Lib.hid (fit_small (lt_top (Nat.mod_le a b) LA.out))
  have d0 := D.out.q
  go_wp2_with fail
  refine (is_any _ (a / b) 0 _ (by rw [Q1.out.1]; exact HNq.out) Q1.out.2.symm).mono ?_
  rintro e w14 ⟨rfl, hbl⟩
  replace RA := Lib.hid (RA.out.below hbl)
  replace RB := Lib.hid (RB.out.below hbl)
  replace T := Lib.hid (T.out.below hbl)
  replace Rq := Lib.hid (Rq.out.below hbl)
  replace HNq := Lib.hid (HNq.out.below hbl)
  replace Rr := Lib.hid (Rr.out.below hbl)
  replace HNr := Lib.hid (HNr.out.below hbl)
  replace Rs := Lib.hid (Rs.out.below hbl)
  replace HNs := Lib.hid (HNs.out.below hbl)
  replace D := Lib.hid (D.out.below hbl)
  replace HW := Lib.hid (bel_trans HW.out hbl); clear hbl
  clear d0
  have d1 := D.out.r
  go_wp2_with fail
  refine (is_any _ (a % b) 0 _ (by rw [Q2.out.1]; exact HNr.out) Q2.out.2.symm).mono ?_
  rintro e w15 ⟨rfl, hbl⟩
  replace RA := Lib.hid (RA.out.below hbl)
  replace RB := Lib.hid (RB.out.below hbl)
  replace T := Lib.hid (T.out.below hbl)
  replace Rq := Lib.hid (Rq.out.below hbl)
  replace HNq := Lib.hid (HNq.out.below hbl)
  replace Rr := Lib.hid (Rr.out.below hbl)
  replace HNr := Lib.hid (HNr.out.below hbl)
  replace Rs := Lib.hid (Rs.out.below hbl)
  replace HNs := Lib.hid (HNs.out.below hbl)
  replace D := Lib.hid (D.out.below hbl)
  replace HW := Lib.hid (bel_trans HW.out hbl); clear hbl
  go_wp2
  go_ret
  exact ⟨rfl, HW.out⟩

set_option maxRecDepth 100000 in
set_option maxHeartbeats 1000000 in
theorem parts_num_far (A A' : Option Addr) (cap cap' : Nat) (x0 y0 : List Nat) (i : Int) (a b : Nat) (w : World) (h : RdL w A x0) (h' : RdL w A' y0) (hc : x0.length ≤ cap) (hc' : y0.length ≤ cap') (ht : Bases w) (ha : few x0 = limbs a) (ha2 : a < Top) (hb : few y0 = limbs b) (hb2 : b < Top) (hb0 : b ≠ 0) (ha0 : a ≠ 0) (hi : 600 < i) :
    Calls Tryd.prog 4 #[.slice A x0.length cap, .slice A' y0.length cap', .int .i64 i] w (RetT w) := by
  have RA := Lib.hid (show RdL w A (few x0) from h.take 18); clear h
  have RB := Lib.hid (show RdL w A' (few y0) from h'.take 18); clear h'
  have T := Lib.hid ht; clear ht
  rw [ha] at RA
  have F1 := Lib.hid (And.intro hc ha); clear hc ha
  have LA := Lib.hid ha2; clear ha2
  rw [hb] at RB
  have F2 := Lib.hid (And.intro hc' hb); clear hc' hb
  have LB := Lib.hid hb2; clear hb2
  have hlb : ¬ (((limbs b).length : Int) = 0) := by have := digs_len_pos B32_two hb0; show ¬ (((digs B32 b).length : Nat) : Int) = 0; omega
  have HB0 := Lib.hid hb0; clear hb0
  have HW := Lib.hid (bel_refl w)
  obtain ⟨k, nb, p1, p2, q1, q2, q3, q4, q5, q6, q7⟩ := bits_powers LA.out ha0
  have e1 : ¬ cmpI (a : Int) (p1 : Int) < 0 := by have := cmp_ge (a := a) (b := p1) (by omega); omega
  have e2 : cmpI (a : Int) (p2 : Int) = -1 := cmpI_lt (by omega)
  have hk1 : IntKind.i64.wrap ((nb : Int) - 1) = (k : Int) := by rw [IntKind.wrap_i64]; omega
  have hn0 : (0 : Int) < (nb : Int) := by omega
  have hk2 : k ≤ 1000 := by omega
  have hnz : ((nb : Int) == 0) = false := by simp; omega
  have hnz2 : ¬ ((nb : Int) = 0) := by omega
  have HA0 := Lib.hid ha0; clear ha0
  have HQ := Lib.hid (And.intro q1 (And.intro q2 (And.intro q4 (And.intro q5 (And.intro q6 q7))))); clear q1 q2 q4 q5 q6 q7
  go_enter Tryd.func4, Tryd.ntmps4
  go_wp2_with fail
  refine (few_is A cap x0 (limbs a) _ F1.out.1 F1.out.2).mono ?_
  rintro e w1 ⟨rfl, hbl⟩
  replace RA := Lib.hid (RA.out.below hbl)
  replace RB := Lib.hid (RB.out.below hbl)
  replace T := Lib.hid (T.out.below hbl)
  replace HW := Lib.hid (bel_trans HW.out hbl); clear hbl
  go_wp2_with fail
  refine (few_is A' cap' y0 (limbs b) _ F2.out.1 F2.out.2).mono ?_
  rintro e w2 ⟨rfl, hbl⟩
  replace RA := Lib.hid (RA.out.below hbl)
  replace RB := Lib.hid (RB.out.below hbl)
  replace T := Lib.hid (T.out.below hbl)
  replace HW := Lib.hid (bel_trans HW.out hbl); clear hbl
  go_wp2_with fail
  refine (div_num A A' cap cap' a b _ RA.out RB.out LA.out LB.out HB0.out).mono ?_
  rintro e w3 ⟨vq, vr, rfl, hnq, hnr, hbl⟩
  replace RA := Lib.hid (RA.out.below hbl)
  replace RB := Lib.hid (RB.out.below hbl)
  replace T := Lib.hid (T.out.below hbl)
  replace HW := Lib.hid (bel_trans HW.out hbl); clear hbl
  have HNq := Lib.hid hnq; clear hnq
  obtain ⟨Aq, cq, rfl, hcq, hrq⟩ := HNq.out.row
  have Rq := Lib.hid hrq; clear hrq hcq
  have HNr := Lib.hid hnr; clear hnr
  obtain ⟨Ar, cr, rfl, hcr, hrr⟩ := HNr.out.row
  have Rr := Lib.hid hrr; clear hrr hcr
  go_wp2_with fail
  refine (shift_far A cap a i _ RA.out LA.out HA0.out hi).mono ?_
  rintro e w4 ⟨vs, rfl, hns, hbl⟩
  replace RA := Lib.hid (RA.out.below hbl)
  replace RB := Lib.hid (RB.out.below hbl)
  replace T := Lib.hid (T.out.below hbl)
  replace Rq := Lib.hid (Rq.out.below hbl)
  replace HNq := Lib.hid (HNq.out.below hbl)
  replace Rr := Lib.hid (Rr.out.below hbl)
  replace HNr := Lib.hid (HNr.out.below hbl)
  replace HW := Lib.hid (bel_trans HW.out hbl); clear hbl
  have HNs := Lib.hid hns; clear hns
  obtain ⟨As, cs, rfl, hcs, hrs⟩ := HNs.out.row
  have Rs := Lib.hid hrs; clear hrs hcs
  rw [limbs0]
  go_wp2_with fail
  refine (bits_is A cap a nb _ RA.out LA.out HQ.out.1).mono ?_
  rintro e w5 ⟨rfl, hbl⟩
  replace RA := Lib.hid (RA.out.below hbl)
  replace RB := Lib.hid (RB.out.below hbl)
  replace T := Lib.hid (T.out.below hbl)
  replace Rq := Lib.hid (Rq.out.below hbl)
  replace HNq := Lib.hid (HNq.out.below hbl)
  replace Rr := Lib.hid (Rr.out.below hbl)
  replace HNr := Lib.hid (HNr.out.below hbl)
  replace Rs := Lib.hid (Rs.out.below hbl)
  replace HNs := Lib.hid (HNs.out.below hbl)
  replace HW := Lib.hid (bel_trans HW.out hbl); clear hbl
  go_wp2_with fail
  refine (refRightR LA.out A cap _ RA.out).mono ?_
  rintro e w6 ⟨rfl, hbl⟩
  replace RA := Lib.hid (RA.out.below hbl)
  replace RB := Lib.hid (RB.out.below hbl)
  replace T := Lib.hid (T.out.below hbl)
  replace Rq := Lib.hid (Rq.out.below hbl)
  replace HNq := Lib.hid (HNq.out.below hbl)
  replace Rr := Lib.hid (Rr.out.below hbl)
  replace HNr := Lib.hid (HNr.out.below hbl)
  replace Rs := Lib.hid (Rs.out.below hbl)
  replace HNs := Lib.hid (HNs.out.below hbl)
  replace HW := Lib.hid (bel_trans HW.out hbl); clear hbl
  go_wp2_with fail
  refine (text_num A cap a _ RA.out LA.out).mono ?_
  rintro e w7 ⟨rfl, hbl⟩
  replace RA := Lib.hid (RA.out.below hbl)
  replace RB := Lib.hid (RB.out.below hbl)
  replace T := Lib.hid (T.out.below hbl)
  replace Rq := Lib.hid (Rq.out.below hbl)
  replace HNq := Lib.hid (HNq.out.below hbl)
  replace Rr := Lib.hid (Rr.out.below hbl)
  replace HNr := Lib.hid (HNr.out.below hbl)
  replace Rs := Lib.hid (Rs.out.below hbl)
  replace HNs := Lib.hid (HNs.out.below hbl)
  replace HW := Lib.hid (bel_trans HW.out hbl); clear hbl
  go_wp2_with fail
  refine (power_is k p1 _ HQ.out.2.2.1 (by omega)).mono ?_
  rintro e w8 ⟨rfl, hbl⟩
  replace RA := Lib.hid (RA.out.below hbl)
  replace RB := Lib.hid (RB.out.below hbl)
  replace T := Lib.hid (T.out.below hbl)
  replace Rq := Lib.hid (Rq.out.below hbl)
  replace HNq := Lib.hid (HNq.out.below hbl)
  replace Rr := Lib.hid (Rr.out.below hbl)
  replace HNr := Lib.hid (HNr.out.below hbl)
  replace Rs := Lib.hid (Rs.out.below hbl)
  replace HNs := Lib.hid (HNs.out.below hbl)
  replace HW := Lib.hid (bel_trans HW.out hbl); clear hbl
  go_wp2_with fail
  refine (refCmp_bb a p1 _).mono ?_
  rintro e w9 ⟨rfl, hbl⟩
  replace RA := Lib.hid (RA.out.below hbl)
  replace RB := Lib.hid (RB.out.below hbl)
  replace T := Lib.hid (T.out.below hbl)
  replace Rq := Lib.hid (Rq.out.below hbl)
  replace HNq := Lib.hid (HNq.out.below hbl)
  replace Rr := Lib.hid (Rr.out.below hbl)
  replace HNr := Lib.hid (HNr.out.below hbl)
  replace Rs := Lib.hid (Rs.out.below hbl)
  replace HNs := Lib.hid (HNs.out.below hbl)
  replace HW := Lib.hid (bel_trans HW.out hbl); clear hbl
  go_wp2_with fail
  refine (power_is nb p2 _ HQ.out.2.2.2.1 (by omega)).mono ?_
  rintro e w10 ⟨rfl, hbl⟩
  replace RA := Lib.hid (RA.out.below hbl)
  replace RB := Lib.hid (RB.out.below hbl)
  replace T := Lib.hid (T.out.below hbl)
  replace Rq := Lib.hid (Rq.out.below hbl)
  replace HNq := Lib.hid (HNq.out.below hbl)
  replace Rr := Lib.hid (Rr.out.below hbl)
  replace HNr := Lib.hid (HNr.out.below hbl)
  replace Rs := Lib.hid (Rs.out.below hbl)
  replace HNs := Lib.hid (HNs.out.below hbl)
  replace HW := Lib.hid (bel_trans HW.out hbl); clear hbl
  go_wp2_with fail
  refine (refCmp_bb a p2 _).mono ?_
  rintro e w11 ⟨rfl, hbl⟩
  replace RA := Lib.hid (RA.out.below hbl)
  replace RB := Lib.hid (RB.out.below hbl)
  replace T := Lib.hid (T.out.below hbl)
  replace Rq := Lib.hid (Rq.out.below hbl)
  replace HNq := Lib.hid (HNq.out.below hbl)
  replace Rr := Lib.hid (Rr.out.below hbl)
  replace HNr := Lib.hid (HNr.out.below hbl)
  replace Rs := Lib.hid (Rs.out.below hbl)
  replace HNs := Lib.hid (HNs.out.below hbl)
  replace HW := Lib.hid (bel_trans HW.out hbl); clear hbl
  go_wp2_with fail
  refine (refRightR LB.out A' cap' _ RB.out).mono ?_
  rintro e w12 ⟨rfl, hbl⟩
  replace RA := Lib.hid (RA.out.below hbl)
  replace RB := Lib.hid (RB.out.below hbl)
  replace T := Lib.hid (T.out.below hbl)
  replace Rq := Lib.hid (Rq.out.below hbl)
  replace HNq := Lib.hid (HNq.out.below hbl)
  replace Rr := Lib.hid (Rr.out.below hbl)
  replace HNr := Lib.hid (HNr.out.below hbl)
  replace Rs := Lib.hid (Rs.out.below hbl)
  replace HNs := Lib.hid (HNs.out.below hbl)
  replace HW := Lib.hid (bel_trans HW.out hbl); clear hbl
  go_wp2_with fail
  refine (text_num A' cap' b _ RB.out LB.out).mono ?_
  rintro e w13 ⟨rfl, hbl⟩
  replace RA := Lib.hid (RA.out.below hbl)
  replace RB := Lib.hid (RB.out.below hbl)
  replace T := Lib.hid (T.out.below hbl)
  replace Rq := Lib.hid (Rq.out.below hbl)
  replace HNq := Lib.hid (HNq.out.below hbl)
  replace Rr := Lib.hid (Rr.out.below hbl)
  replace HNr := Lib.hid (HNr.out.below hbl)
  replace Rs := Lib.hid (Rs.out.below hbl)
  replace HNs := Lib.hid (HNs.out.below hbl)
  replace HW := Lib.hid (bel_trans HW.out hbl); clear hbl
  go_wp2_with fail
  refine (refDiv_any a b _ (by have := decL_top LA.out; omega) (by have := decL_top LB.out; omega) HB0.out).mono ?_
  rintro e w14 ⟨rfl, hbl⟩
  replace RA := Lib.hid (RA.out.below hbl)
  replace RB := Lib.hid (RB.out.below hbl)
  replace T := Lib.hid (T.out.below hbl)
  replace Rq := Lib.hid (Rq.out.below hbl)
  replace HNq := Lib.hid (HNq.out.below hbl)
  replace Rr := Lib.hid (Rr.out.below hbl)
  replace HNr := Lib.hid (HNr.out.below hbl)
  replace Rs := Lib.hid (Rs.out.below hbl)
  replace HNs := Lib.hid (HNs.out.below hbl)
  replace HW := Lib.hid (bel_trans HW.out hbl); clear hbl
  go_wp2_with fail
  have D := Lib.hid (DAt.new w14 (a / b) (a % b))
  have hbl := DAt.bel w14 (a / b) (a % b)
  generalize hwd : w14.alloc (.cells #[.string (dec (a / b)), .string (dec (a % b))] 51) = wd at D hbl ⊢
  replace RA := Lib.hid (RA.out.below hbl)
  replace RB := Lib.hid (RB.out.below hbl)
  replace T := Lib.hid (T.out.below hbl)
  replace Rq := Lib.hid (Rq.out.below hbl)
  replace HNq := Lib.hid (HNq.out.below hbl)
  replace Rr := Lib.hid (Rr.out.below hbl)
  replace HNr := Lib.hid (HNr.out.below hbl)
  replace Rs := Lib.hid (Rs.out.below hbl)
  replace HNs := Lib.hid (HNs.out.below hbl)
  replace HW := Lib.hid (bel_trans HW.out hbl); clear hbl hwd
  go_wp2_with fail
  refine (alive_any _ T.out).mono ?_
  rintro e w15 ⟨rfl, hbl⟩
  replace RA := Lib.hid (RA.out.below hbl)
  replace RB := Lib.hid (RB.out.below hbl)
  replace T := Lib.hid (T.out.below hbl)
  replace Rq := Lib.hid (Rq.out.below hbl)
  replace HNq := Lib.hid (HNq.out.below hbl)
  replace Rr := Lib.hid (Rr.out.below hbl)
  replace HNr := Lib.hid (HNr.out.below hbl)
  replace Rs := Lib.hid (Rs.out.below hbl)
  replace HNs := Lib.hid (HNs.out.below hbl)
  replace D := Lib.hid (D.out.below hbl)
  replace HW := Lib.hid (bel_trans HW.out hbl); clear hbl
  have Q1 := Lib.hid (fit_small (lt_top (Nat.div_le_self a b) LA.out))
  have Q2 := Lib.hid (fit_small (lt_top (Nat.mod_le a b) LA.out))
  have d0 := D.out.q
  go_wp2_with fail
  refine (is_any _ (a / b) 0 _ (by rw [Q1.out.1]; exact HNq.out) Q1.out.2.symm).mono ?_
  rintro e w16 ⟨rfl, hbl⟩
  replace RA := Lib.hid (RA.out.below hbl)
  replace RB := Lib.hid (RB.out.below hbl)
  replace T := Lib.hid (T.out.below hbl)
  replace Rq := Lib.hid (Rq.out.below hbl)
  replace HNq := Lib.hid (HNq.out.below hbl)
  replace Rr := Lib.hid (Rr.out.below hbl)
  replace HNr := Lib.hid (HNr.out.below hbl)
  replace Rs := Lib.hid (Rs.out.below hbl)
  replace HNs := Lib.hid (HNs.out.below hbl)
  replace D := Lib.hid (D.out.below hbl)
  replace HW := Lib.hid (bel_trans HW.out hbl); clear hbl
  clear d0
  have d1 := D.out.r
  go_wp2_with fail
  refine (is_any _ (a % b) 0 _ (by rw [Q2.out.1]; exact HNr.out) Q2.out.2.symm).mono ?_
  rintro e w17 ⟨rfl, hbl⟩
  replace RA := Lib.hid (RA.out.below hbl)
  replace RB := Lib.hid (RB.out.below hbl)
  replace T := Lib.hid (T.out.below hbl)
  replace Rq := Lib.hid (Rq.out.below hbl)
  replace HNq := Lib.hid (HNq.out.below hbl)
  replace Rr := Lib.hid (Rr.out.below hbl)
  replace HNr := Lib.hid (HNr.out.below hbl)
  replace Rs := Lib.hid (Rs.out.below hbl)
  replace HNs := Lib.hid (HNs.out.below hbl)
  replace D := Lib.hid (D.out.below hbl)
  replace HW := Lib.hid (bel_trans HW.out hbl); clear hbl
  go_wp2
  go_ret
  exact ⟨rfl, HW.out⟩

set_option maxRecDepth 100000 in
set_option maxHeartbeats 1000000 in
theorem parts_num_gone (A A' : Option Addr) (cap cap' : Nat) (x0 y0 : List Nat) (i : Int) (a b : Nat) (w : World) (h : RdL w A x0) (h' : RdL w A' y0) (hc : x0.length ≤ cap) (hc' : y0.length ≤ cap') (ht : Bases w) (ha : few x0 = limbs a) (ha2 : a < Top) (hb : few y0 = limbs b) (hb2 : b < Top) (hb0 : b ≠ 0) (ha0 : a ≠ 0) (hi : i < -600) :
    Calls Tryd.prog 4 #[.slice A x0.length cap, .slice A' y0.length cap', .int .i64 i] w (RetT w) := by
  have RA := Lib.hid (show RdL w A (few x0) from h.take 18); clear h
  have RB := Lib.hid (show RdL w A' (few y0) from h'.take 18); clear h'
  have T := Lib.hid ht; clear ht
  rw [ha] at RA
  have F1 := Lib.hid (And.intro hc ha); clear hc ha
  have LA := Lib.hid ha2; clear ha2
  rw [hb] at RB
  have F2 := Lib.hid (And.intro hc' hb); clear hc' hb
  have LB := Lib.hid hb2; clear hb2
  have hlb : ¬ (((limbs b).length : Int) = 0) := by have := digs_len_pos B32_two hb0; show ¬ (((digs B32 b).length : Nat) : Int) = 0; omega
  have HB0 := Lib.hid hb0; clear hb0
  have HW := Lib.hid (bel_refl w)
  obtain ⟨k, nb, p1, p2, q1, q2, q3, q4, q5, q6, q7⟩ := bits_powers LA.out ha0
  have e1 : ¬ cmpI (a : Int) (p1 : Int) < 0 := by have := cmp_ge (a := a) (b := p1) (by omega); omega
  have e2 : cmpI (a : Int) (p2 : Int) = -1 := cmpI_lt (by omega)
  have hk1 : IntKind.i64.wrap ((nb : Int) - 1) = (k : Int) := by rw [IntKind.wrap_i64]; omega
  have hn0 : (0 : Int) < (nb : Int) := by omega
  have hk2 : k ≤ 1000 := by omega
  have hnz : ((nb : Int) == 0) = false := by simp; omega
  have hnz2 : ¬ ((nb : Int) = 0) := by omega
  have HA0 := Lib.hid ha0; clear ha0
  have HQ := Lib.hid (And.intro q1 (And.intro q2 (And.intro q4 (And.intro q5 (And.intro q6 q7))))); clear q1 q2 q4 q5 q6 q7
  go_enter Tryd.func4, Tryd.ntmps4
  go_wp2_with fail
  refine (few_is A cap x0 (limbs a) _ F1.out.1 F1.out.2).mono ?_
  rintro e w1 ⟨rfl, hbl⟩
  replace RA := Lib.hid (RA.out.below hbl)
  replace RB := Lib.hid (RB.out.below hbl)
  replace T := Lib.hid (T.out.below hbl)
  replace HW := Lib.hid (bel_trans HW.out hbl); clear hbl
  go_wp2_with fail
  refine (few_is A' cap' y0 (limbs b) _ F2.out.1 F2.out.2).mono ?_
  rintro e w2 ⟨rfl, hbl⟩
  replace RA := Lib.hid (RA.out.below hbl)
  replace RB := Lib.hid (RB.out.below hbl)
  replace T := Lib.hid (T.out.below hbl)
  replace HW := Lib.hid (bel_trans HW.out hbl); clear hbl
  go_wp2_with fail
  refine (div_num A A' cap cap' a b _ RA.out RB.out LA.out LB.out HB0.out).mono ?_
  rintro e w3 ⟨vq, vr, rfl, hnq, hnr, hbl⟩
  replace RA := Lib.hid (RA.out.below hbl)
  replace RB := Lib.hid (RB.out.below hbl)
  replace T := Lib.hid (T.out.below hbl)
  replace HW := Lib.hid (bel_trans HW.out hbl); clear hbl
  have HNq := Lib.hid hnq; clear hnq
  obtain ⟨Aq, cq, rfl, hcq, hrq⟩ := HNq.out.row
  have Rq := Lib.hid hrq; clear hrq hcq
  have HNr := Lib.hid hnr; clear hnr
  obtain ⟨Ar, cr, rfl, hcr, hrr⟩ := HNr.out.row
  have Rr := Lib.hid hrr; clear hrr hcr
  go_wp2_with fail
  refine (shift_gone A cap a i _ RA.out LA.out hi).mono ?_
  rintro e w4 ⟨vs, rfl, hns, hbl⟩
  replace RA := Lib.hid (RA.out.below hbl)
  replace RB := Lib.hid (RB.out.below hbl)
  replace T := Lib.hid (T.out.below hbl)
  replace Rq := Lib.hid (Rq.out.below hbl)
  replace HNq := Lib.hid (HNq.out.below hbl)
  replace Rr := Lib.hid (Rr.out.below hbl)
  replace HNr := Lib.hid (HNr.out.below hbl)
  replace HW := Lib.hid (bel_trans HW.out hbl); clear hbl
  have HNs := Lib.hid hns; clear hns
  obtain ⟨As, cs, rfl, hcs, hrs⟩ := HNs.out.row
  have Rs := Lib.hid hrs; clear hrs hcs
  rw [limbs0]
  go_wp2_with fail
  refine (bits_is A cap a nb _ RA.out LA.out HQ.out.1).mono ?_
  rintro e w5 ⟨rfl, hbl⟩
  replace RA := Lib.hid (RA.out.below hbl)
  replace RB := Lib.hid (RB.out.below hbl)
  replace T := Lib.hid (T.out.below hbl)
  replace Rq := Lib.hid (Rq.out.below hbl)
  replace HNq := Lib.hid (HNq.out.below hbl)
  replace Rr := Lib.hid (Rr.out.below hbl)
  replace HNr := Lib.hid (HNr.out.below hbl)
  replace Rs := Lib.hid (Rs.out.below hbl)
  replace HNs := Lib.hid (HNs.out.below hbl)
  replace HW := Lib.hid (bel_trans HW.out hbl); clear hbl
  go_wp2_with fail
  refine (refRightR LA.out A cap _ RA.out).mono ?_
  rintro e w6 ⟨rfl, hbl⟩
  replace RA := Lib.hid (RA.out.below hbl)
  replace RB := Lib.hid (RB.out.below hbl)
  replace T := Lib.hid (T.out.below hbl)
  replace Rq := Lib.hid (Rq.out.below hbl)
  replace HNq := Lib.hid (HNq.out.below hbl)
  replace Rr := Lib.hid (Rr.out.below hbl)
  replace HNr := Lib.hid (HNr.out.below hbl)
  replace Rs := Lib.hid (Rs.out.below hbl)
  replace HNs := Lib.hid (HNs.out.below hbl)
  replace HW := Lib.hid (bel_trans HW.out hbl); clear hbl
  go_wp2_with fail
  refine (text_num A cap a _ RA.out LA.out).mono ?_
  rintro e w7 ⟨rfl, hbl⟩
  replace RA := Lib.hid (RA.out.below hbl)
  replace RB := Lib.hid (RB.out.below hbl)
  replace T := Lib.hid (T.out.below hbl)
  replace Rq := Lib.hid (Rq.out.below hbl)
  replace HNq := Lib.hid (HNq.out.below hbl)
  replace Rr := Lib.hid (Rr.out.below hbl)
  replace HNr := Lib.hid (HNr.out.below hbl)
  replace Rs := Lib.hid (Rs.out.below hbl)
  replace HNs := Lib.hid (HNs.out.below hbl)
  replace HW := Lib.hid (bel_trans HW.out hbl); clear hbl
  go_wp2_with fail
  refine (power_is k p1 _ HQ.out.2.2.1 (by omega)).mono ?_
  rintro e w8 ⟨rfl, hbl⟩
  replace RA := Lib.hid (RA.out.below hbl)
  replace RB := Lib.hid (RB.out.below hbl)
  replace T := Lib.hid (T.out.below hbl)
  replace Rq := Lib.hid (Rq.out.below hbl)
  replace HNq := Lib.hid (HNq.out.below hbl)
  replace Rr := Lib.hid (Rr.out.below hbl)
  replace HNr := Lib.hid (HNr.out.below hbl)
  replace Rs := Lib.hid (Rs.out.below hbl)
  replace HNs := Lib.hid (HNs.out.below hbl)
  replace HW := Lib.hid (bel_trans HW.out hbl); clear hbl
  go_wp2_with fail
  refine (refCmp_bb a p1 _).mono ?_
  rintro e w9 ⟨rfl, hbl⟩
  replace RA := Lib.hid (RA.out.below hbl)
  replace RB := Lib.hid (RB.out.below hbl)
  replace T := Lib.hid (T.out.below hbl)
  replace Rq := Lib.hid (Rq.out.below hbl)
  replace HNq := Lib.hid (HNq.out.below hbl)
  replace Rr := Lib.hid (Rr.out.below hbl)
  replace HNr := Lib.hid (HNr.out.below hbl)
  replace Rs := Lib.hid (Rs.out.below hbl)
  replace HNs := Lib.hid (HNs.out.below hbl)
  replace HW := Lib.hid (bel_trans HW.out hbl); clear hbl
  go_wp2_with fail
  refine (power_is nb p2 _ HQ.out.2.2.2.1 (by omega)).mono ?_
  rintro e w10 ⟨rfl, hbl⟩
  replace RA := Lib.hid (RA.out.below hbl)
  replace RB := Lib.hid (RB.out.below hbl)
  replace T := Lib.hid (T.out.below hbl)
  replace Rq := Lib.hid (Rq.out.below hbl)
  replace HNq := Lib.hid (HNq.out.below hbl)
  replace Rr := Lib.hid (Rr.out.below hbl)
  replace HNr := Lib.hid (HNr.out.below hbl)
  replace Rs := Lib.hid (Rs.out.below hbl)
  replace HNs := Lib.hid (HNs.out.below hbl)
  replace HW := Lib.hid (bel_trans HW.out hbl); clear hbl
  go_wp2_with fail
  refine (refCmp_bb a p2 _).mono ?_
  rintro e w11 ⟨rfl, hbl⟩
  replace RA := Lib.hid (RA.out.below hbl)
  replace RB := Lib.hid (RB.out.below hbl)
  replace T := Lib.hid (T.out.below hbl)
  replace Rq := Lib.hid (Rq.out.below hbl)
  replace HNq := Lib.hid (HNq.out.below hbl)
  replace Rr := Lib.hid (Rr.out.below hbl)
  replace HNr := Lib.hid (HNr.out.below hbl)
  replace Rs := Lib.hid (Rs.out.below hbl)
  replace HNs := Lib.hid (HNs.out.below hbl)
  replace HW := Lib.hid (bel_trans HW.out hbl); clear hbl
  go_wp2_with fail
  refine (refRightR LB.out A' cap' _ RB.out).mono ?_
  rintro e w12 ⟨rfl, hbl⟩
  replace RA := Lib.hid (RA.out.below hbl)
  replace RB := Lib.hid (RB.out.below hbl)
  replace T := Lib.hid (T.out.below hbl)
  replace Rq := Lib.hid (Rq.out.below hbl)
  replace HNq := Lib.hid (HNq.out.below hbl)
  replace Rr := Lib.hid (Rr.out.below hbl)
  replace HNr := Lib.hid (HNr.out.below hbl)
  replace Rs := Lib.hid (Rs.out.below hbl)
  replace HNs := Lib.hid (HNs.out.below hbl)
  replace HW := Lib.hid (bel_trans HW.out hbl); clear hbl
  go_wp2_with fail
  refine (text_num A' cap' b _ RB.out LB.out).mono ?_
  rintro e w13 ⟨rfl, hbl⟩
  replace RA := Lib.hid (RA.out.below hbl)
  replace RB := Lib.hid (RB.out.below hbl)
  replace T := Lib.hid (T.out.below hbl)
  replace Rq := Lib.hid (Rq.out.below hbl)
  replace HNq := Lib.hid (HNq.out.below hbl)
  replace Rr := Lib.hid (Rr.out.below hbl)
  replace HNr := Lib.hid (HNr.out.below hbl)
  replace Rs := Lib.hid (Rs.out.below hbl)
  replace HNs := Lib.hid (HNs.out.below hbl)
  replace HW := Lib.hid (bel_trans HW.out hbl); clear hbl
  go_wp2_with fail
  refine (refDiv_any a b _ (by have := decL_top LA.out; omega) (by have := decL_top LB.out; omega) HB0.out).mono ?_
  rintro e w14 ⟨rfl, hbl⟩
  replace RA := Lib.hid (RA.out.below hbl)
  replace RB := Lib.hid (RB.out.below hbl)
  replace T := Lib.hid (T.out.below hbl)
  replace Rq := Lib.hid (Rq.out.below hbl)
  replace HNq := Lib.hid (HNq.out.below hbl)
  replace Rr := Lib.hid (Rr.out.below hbl)
  replace HNr := Lib.hid (HNr.out.below hbl)
  replace Rs := Lib.hid (Rs.out.below hbl)
  replace HNs := Lib.hid (HNs.out.below hbl)
  replace HW := Lib.hid (bel_trans HW.out hbl); clear hbl
  go_wp2_with fail
  have D := Lib.hid (DAt.new w14 (a / b) (a % b))
  have hbl := DAt.bel w14 (a / b) (a % b)
  generalize hwd : w14.alloc (.cells #[.string (dec (a / b)), .string (dec (a % b))] 51) = wd at D hbl ⊢
  replace RA := Lib.hid (RA.out.below hbl)
  replace RB := Lib.hid (RB.out.below hbl)
  replace T := Lib.hid (T.out.below hbl)
  replace Rq := Lib.hid (Rq.out.below hbl)
  replace HNq := Lib.hid (HNq.out.below hbl)
  replace Rr := Lib.hid (Rr.out.below hbl)
  replace HNr := Lib.hid (HNr.out.below hbl)
  replace Rs := Lib.hid (Rs.out.below hbl)
  replace HNs := Lib.hid (HNs.out.below hbl)
  replace HW := Lib.hid (bel_trans HW.out hbl); clear hbl hwd
  go_wp2_with fail
  refine (alive_any _ T.out).mono ?_
  rintro e w15 ⟨rfl, hbl⟩
  replace RA := Lib.hid (RA.out.below hbl)
  replace RB := Lib.hid (RB.out.below hbl)
  replace T := Lib.hid (T.out.below hbl)
  replace Rq := Lib.hid (Rq.out.below hbl)
  replace HNq := Lib.hid (HNq.out.below hbl)
  replace Rr := Lib.hid (Rr.out.below hbl)
  replace HNr := Lib.hid (HNr.out.below hbl)
  replace Rs := Lib.hid (Rs.out.below hbl)
  replace HNs := Lib.hid (HNs.out.below hbl)
  replace D := Lib.hid (D.out.below hbl)
  replace HW := Lib.hid (bel_trans HW.out hbl); clear hbl
  have Q1 := Lib.hid (fit_small (lt_top (Nat.div_le_self a b) LA.out))
  have Q2 := Lib.hid (fit_small (lt_top (Nat.mod_le a b) LA.out))
  have d0 := D.out.q
  go_wp2_with fail
  refine (is_any _ (a / b) 0 _ (by rw [Q1.out.1]; exact HNq.out) Q1.out.2.symm).mono ?_
  rintro e w16 ⟨rfl, hbl⟩
  replace RA := Lib.hid (RA.out.below hbl)
  replace RB := Lib.hid (RB.out.below hbl)
  replace T := Lib.hid (T.out.below hbl)
  replace Rq := Lib.hid (Rq.out.below hbl)
  replace HNq := Lib.hid (HNq.out.below hbl)
  replace Rr := Lib.hid (Rr.out.below hbl)
  replace HNr := Lib.hid (HNr.out.below hbl)
  replace Rs := Lib.hid (Rs.out.below hbl)
  replace HNs := Lib.hid (HNs.out.below hbl)
  replace D := Lib.hid (D.out.below hbl)
  replace HW := Lib.hid (bel_trans HW.out hbl); clear hbl
  clear d0
  have d1 := D.out.r
  go_wp2_with fail
  refine (is_any _ (a % b) 0 _ (by rw [Q2.out.1]; exact HNr.out) Q2.out.2.symm).mono ?_
  rintro e w17 ⟨rfl, hbl⟩
  replace RA := Lib.hid (RA.out.below hbl)
  replace RB := Lib.hid (RB.out.below hbl)
  replace T := Lib.hid (T.out.below hbl)
  replace Rq := Lib.hid (Rq.out.below hbl)
  replace HNq := Lib.hid (HNq.out.below hbl)
  replace Rr := Lib.hid (Rr.out.below hbl)
  replace HNr := Lib.hid (HNr.out.below hbl)
  replace Rs := Lib.hid (Rs.out.below hbl)
  replace HNs := Lib.hid (HNs.out.below hbl)
  replace D := Lib.hid (D.out.below hbl)
  replace HW := Lib.hid (bel_trans HW.out hbl); clear hbl
  go_wp2
  go_ret
  exact ⟨rfl, HW.out⟩

set_option maxRecDepth 100000 in
set_option maxHeartbeats 1000000 in
theorem parts_num_up (A A' : Option Addr) (cap cap' : Nat) (x0 y0 : List Nat) (i : Int) (a b : Nat) (w : World) (h : RdL w A x0) (h' : RdL w A' y0) (hc : x0.length ≤ cap) (hc' : y0.length ≤ cap') (ht : Bases w) (ha : few x0 = limbs a) (ha2 : a < Top) (hb : few y0 = limbs b) (hb2 : b < Top) (hb0 : b ≠ 0) (ha0 : a ≠ 0) (m : Nat) (him : i = (m : Int)) (hi : m ≤ 600) :
    Calls Tryd.prog 4 #[.slice A x0.length cap, .slice A' y0.length cap', .int .i64 i] w (RetT w) := by
  have RA := Lib.hid (show RdL w A (few x0) from h.take 18); clear h
  have RB := Lib.hid (show RdL w A' (few y0) from h'.take 18); clear h'
  have T := Lib.hid ht; clear ht
  rw [ha] at RA
  have F1 := Lib.hid (And.intro hc ha); clear hc ha
  have LA := Lib.hid ha2; clear ha2
  rw [hb] at RB
  have F2 := Lib.hid (And.intro hc' hb); clear hc' hb
  have LB := Lib.hid hb2; clear hb2
  have hlb : ¬ (((limbs b).length : Int) = 0) := by have := digs_len_pos B32_two hb0; show ¬ (((digs B32 b).length : Nat) : Int) = 0; omega
  have HB0 := Lib.hid hb0; clear hb0
  have HW := Lib.hid (bel_refl w)
  subst him
  obtain ⟨p, hp⟩ : ∃ p, 2 ^ m = p := ⟨_, rfl⟩
  have hpl := power_len hp (by omega)
  have hpp : p ≠ 0 := by rw [← hp]; exact pow_ne m
  have HP := Lib.hid (And.intro hp (And.intro hpl hpp)); clear hp hpl hpp
  have i1 : ¬ 600 < (m : Int) := by omega
  have i2 : ¬ (m : Int) < -600 := by omega
  have i3 : (0 : Int) ≤ (m : Int) := by omega
  have i4 : ¬ (m : Int) < 0 := by omega
  obtain ⟨k, nb, p1, p2, q1, q2, q3, q4, q5, q6, q7⟩ := bits_powers LA.out ha0
  have e1 : ¬ cmpI (a : Int) (p1 : Int) < 0 := by have := cmp_ge (a := a) (b := p1) (by omega); omega
  have e2 : cmpI (a : Int) (p2 : Int) = -1 := cmpI_lt (by omega)
  have hk1 : IntKind.i64.wrap ((nb : Int) - 1) = (k : Int) := by rw [IntKind.wrap_i64]; omega
  have hn0 : (0 : Int) < (nb : Int) := by omega
  have hk2 : k ≤ 1000 := by omega
  have hnz : ((nb : Int) == 0) = false := by simp; omega
  have hnz2 : ¬ ((nb : Int) = 0) := by omega
  have HA0 := Lib.hid ha0; clear ha0
  have HQ := Lib.hid (And.intro q1 (And.intro q2 (And.intro q4 (And.intro q5 (And.intro q6 q7))))); clear q1 q2 q4 q5 q6 q7
  go_enter Tryd.func4, Tryd.ntmps4
  go_wp2_with fail
  refine (few_is A cap x0 (limbs a) _ F1.out.1 F1.out.2).mono ?_
  rintro e w1 ⟨rfl, hbl⟩
  replace RA := Lib.hid (RA.out.below hbl)
  replace RB := Lib.hid (RB.out.below hbl)
  replace T := Lib.hid (T.out.below hbl)
  replace HW := Lib.hid (bel_trans HW.out hbl); clear hbl
  go_wp2_with fail
  refine (few_is A' cap' y0 (limbs b) _ F2.out.1 F2.out.2).mono ?_
  rintro e w2 ⟨rfl, hbl⟩
  replace RA := Lib.hid (RA.out.below hbl)
  replace RB := Lib.hid (RB.out.below hbl)
  replace T := Lib.hid (T.out.below hbl)
  replace HW := Lib.hid (bel_trans HW.out hbl); clear hbl
  go_wp2_with fail
  refine (div_num A A' cap cap' a b _ RA.out RB.out LA.out LB.out HB0.out).mono ?_
  rintro e w3 ⟨vq, vr, rfl, hnq, hnr, hbl⟩
  replace RA := Lib.hid (RA.out.below hbl)
  replace RB := Lib.hid (RB.out.below hbl)
  replace T := Lib.hid (T.out.below hbl)
  replace HW := Lib.hid (bel_trans HW.out hbl); clear hbl
  have HNq := Lib.hid hnq; clear hnq
  obtain ⟨Aq, cq, rfl, hcq, hrq⟩ := HNq.out.row
  have Rq := Lib.hid hrq; clear hrq hcq
  have HNr := Lib.hid hnr; clear hnr
  obtain ⟨Ar, cr, rfl, hcr, hrr⟩ := HNr.out.row
  have Rr := Lib.hid hrr; clear hrr hcr
  go_wp2_with fail
  refine (shift_up A cap a m _ RA.out LA.out).mono ?_
  rintro e w4 ⟨vs, rfl, hns, hbl⟩
  replace RA := Lib.hid (RA.out.below hbl)
  replace RB := Lib.hid (RB.out.below hbl)
  replace T := Lib.hid (T.out.below hbl)
  replace Rq := Lib.hid (Rq.out.below hbl)
  replace HNq := Lib.hid (HNq.out.below hbl)
  replace Rr := Lib.hid (Rr.out.below hbl)
  replace HNr := Lib.hid (HNr.out.below hbl)
  replace HW := Lib.hid (bel_trans HW.out hbl); clear hbl
  have HNs := Lib.hid hns; clear hns
  obtain ⟨As, cs, rfl, hcs, hrs⟩ := HNs.out.row
  have Rs := Lib.hid hrs; clear hrs hcs
  have E := Lib.hid HP.out.1
  rw [E.out] at HNs ⊢
  go_wp2_with fail
  refine (bits_is A cap a nb _ RA.out LA.out HQ.out.1).mono ?_
  rintro e w5 ⟨rfl, hbl⟩
  replace RA := Lib.hid (RA.out.below hbl)
  replace RB := Lib.hid (RB.out.below hbl)
  replace T := Lib.hid (T.out.below hbl)
  replace Rq := Lib.hid (Rq.out.below hbl)
  replace HNq := Lib.hid (HNq.out.below hbl)
  replace Rr := Lib.hid (Rr.out.below hbl)
  replace HNr := Lib.hid (HNr.out.below hbl)
  replace Rs := Lib.hid (Rs.out.below hbl)
  replace HNs := Lib.hid (HNs.out.below hbl)
  replace HW := Lib.hid (bel_trans HW.out hbl); clear hbl
  go_wp2_with fail
  refine (refRightR LA.out A cap _ RA.out).mono ?_
  rintro e w6 ⟨rfl, hbl⟩
  replace RA := Lib.hid (RA.out.below hbl)
  replace RB := Lib.hid (RB.out.below hbl)
  replace T := Lib.hid (T.out.below hbl)
  replace Rq := Lib.hid (Rq.out.below hbl)
  replace HNq := Lib.hid (HNq.out.below hbl)
  replace Rr := Lib.hid (Rr.out.below hbl)
  replace HNr := Lib.hid (HNr.out.below hbl)
  replace Rs := Lib.hid (Rs.out.below hbl)
  replace HNs := Lib.hid (HNs.out.below hbl)
  replace HW := Lib.hid (bel_trans HW.out hbl); clear hbl
  go_wp2_with fail
  refine (text_num A cap a _ RA.out LA.out).mono ?_
  rintro e w7 ⟨rfl, hbl⟩
  replace RA := Lib.hid (RA.out.below hbl)
  replace RB := Lib.hid (RB.out.below hbl)
  replace T := Lib.hid (T.out.below hbl)
  replace Rq := Lib.hid (Rq.out.below hbl)
  replace HNq := Lib.hid (HNq.out.below hbl)
  replace Rr := Lib.hid (Rr.out.below hbl)
  replace HNr := Lib.hid (HNr.out.below hbl)
  replace Rs := Lib.hid (Rs.out.below hbl)
  replace HNs := Lib.hid (HNs.out.below hbl)
  replace HW := Lib.hid (bel_trans HW.out hbl); clear hbl
  go_wp2_with fail
  refine (power_is k p1 _ HQ.out.2.2.1 (by omega)).mono ?_
  rintro e w8 ⟨rfl, hbl⟩
  replace RA := Lib.hid (RA.out.below hbl)
  replace RB := Lib.hid (RB.out.below hbl)
  replace T := Lib.hid (T.out.below hbl)
  replace Rq := Lib.hid (Rq.out.below hbl)
  replace HNq := Lib.hid (HNq.out.below hbl)
  replace Rr := Lib.hid (Rr.out.below hbl)
  replace HNr := Lib.hid (HNr.out.below hbl)
  replace Rs := Lib.hid (Rs.out.below hbl)
  replace HNs := Lib.hid (HNs.out.below hbl)
  replace HW := Lib.hid (bel_trans HW.out hbl); clear hbl
  go_wp2_with fail
  refine (refCmp_bb a p1 _).mono ?_
  rintro e w9 ⟨rfl, hbl⟩
  replace RA := Lib.hid (RA.out.below hbl)
  replace RB := Lib.hid (RB.out.below hbl)
  replace T := Lib.hid (T.out.below hbl)
  replace Rq := Lib.hid (Rq.out.below hbl)
  replace HNq := Lib.hid (HNq.out.below hbl)
  replace Rr := Lib.hid (Rr.out.below hbl)
  replace HNr := Lib.hid (HNr.out.below hbl)
  replace Rs := Lib.hid (Rs.out.below hbl)
  replace HNs := Lib.hid (HNs.out.below hbl)
  replace HW := Lib.hid (bel_trans HW.out hbl); clear hbl
  go_wp2_with fail
  refine (power_is nb p2 _ HQ.out.2.2.2.1 (by omega)).mono ?_
  rintro e w10 ⟨rfl, hbl⟩
  replace RA := Lib.hid (RA.out.below hbl)
  replace RB := Lib.hid (RB.out.below hbl)
  replace T := Lib.hid (T.out.below hbl)
  replace Rq := Lib.hid (Rq.out.below hbl)
  replace HNq := Lib.hid (HNq.out.below hbl)
  replace Rr := Lib.hid (Rr.out.below hbl)
  replace HNr := Lib.hid (HNr.out.below hbl)
  replace Rs := Lib.hid (Rs.out.below hbl)
  replace HNs := Lib.hid (HNs.out.below hbl)
  replace HW := Lib.hid (bel_trans HW.out hbl); clear hbl
  go_wp2_with fail
  refine (refCmp_bb a p2 _).mono ?_
  rintro e w11 ⟨rfl, hbl⟩
  replace RA := Lib.hid (RA.out.below hbl)
  replace RB := Lib.hid (RB.out.below hbl)
  replace T := Lib.hid (T.out.below hbl)
  replace Rq := Lib.hid (Rq.out.below hbl)
  replace HNq := Lib.hid (HNq.out.below hbl)
  replace Rr := Lib.hid (Rr.out.below hbl)
  replace HNr := Lib.hid (HNr.out.below hbl)
  replace Rs := Lib.hid (Rs.out.below hbl)
  replace HNs := Lib.hid (HNs.out.below hbl)
  replace HW := Lib.hid (bel_trans HW.out hbl); clear hbl
  go_wp2_with fail
  refine (power_is m p _ HP.out.1 (by omega)).mono ?_
  rintro e w12 ⟨rfl, hbl⟩
  replace RA := Lib.hid (RA.out.below hbl)
  replace RB := Lib.hid (RB.out.below hbl)
  replace T := Lib.hid (T.out.below hbl)
  replace Rq := Lib.hid (Rq.out.below hbl)
  replace HNq := Lib.hid (HNq.out.below hbl)
  replace Rr := Lib.hid (Rr.out.below hbl)
  replace HNr := Lib.hid (HNr.out.below hbl)
  replace Rs := Lib.hid (Rs.out.below hbl)
  replace HNs := Lib.hid (HNs.out.below hbl)
  replace HW := Lib.hid (bel_trans HW.out hbl); clear hbl
  go_wp2_with fail
  refine (refMul_any a p _ (by have := decL_top LA.out; omega) (by have := HP.out.2.1; omega)).mono ?_
  rintro e w13 ⟨rfl, hbl⟩
  replace RA := Lib.hid (RA.out.below hbl)
  replace RB := Lib.hid (RB.out.below hbl)
  replace T := Lib.hid (T.out.below hbl)
  replace Rq := Lib.hid (Rq.out.below hbl)
  replace HNq := Lib.hid (HNq.out.below hbl)
  replace Rr := Lib.hid (Rr.out.below hbl)
  replace HNr := Lib.hid (HNr.out.below hbl)
  replace Rs := Lib.hid (Rs.out.below hbl)
  replace HNs := Lib.hid (HNs.out.below hbl)
  replace HW := Lib.hid (bel_trans HW.out hbl); clear hbl
  go_wp2_with fail
  refine (is_any _ (a * p) _ _ HNs.out rfl).mono ?_
  rintro e w14 ⟨rfl, hbl⟩
  replace RA := Lib.hid (RA.out.below hbl)
  replace RB := Lib.hid (RB.out.below hbl)
  replace T := Lib.hid (T.out.below hbl)
  replace Rq := Lib.hid (Rq.out.below hbl)
  replace HNq := Lib.hid (HNq.out.below hbl)
  replace Rr := Lib.hid (Rr.out.below hbl)
  replace HNr := Lib.hid (HNr.out.below hbl)
  replace Rs := Lib.hid (Rs.out.below hbl)
  replace HNs := Lib.hid (HNs.out.below hbl)
  replace HW := Lib.hid (bel_trans HW.out hbl); clear hbl
  go_wp2_with fail
  refine (refRightR LB.out A' cap' _ RB.out).mono ?_
  rintro e w15 ⟨rfl, hbl⟩
  replace RA := Lib.hid (RA.out.below hbl)
  replace RB := Lib.hid (RB.out.below hbl)
  replace T := Lib.hid (T.out.below hbl)
  replace Rq := Lib.hid (Rq.out.below hbl)
  replace HNq := Lib.hid (HNq.out.below hbl)
  replace Rr := Lib.hid (Rr.out.below hbl)
  replace HNr := Lib.hid (HNr.out.below hbl)
  replace Rs := Lib.hid (Rs.out.below hbl)
  replace HNs := Lib.hid (HNs.out.below hbl)
  replace HW := Lib.hid (bel_trans HW.out hbl); clear hbl
  go_wp2_with fail
  refine (text_num A' cap' b _ RB.out LB.out).mono ?_
  rintro e w16 ⟨rfl, hbl⟩
  replace RA := Lib.hid (RA.out.below hbl)
  replace RB := Lib.hid (RB.out.below hbl)
  replace T := Lib.hid (T.out.below hbl)
  replace Rq := Lib.hid (Rq.out.below hbl)
  replace HNq := Lib.hid (HNq.out.below hbl)
  replace Rr := Lib.hid (Rr.out.below hbl)
  replace HNr := Lib.hid (HNr.out.below hbl)
  replace Rs := Lib.hid (Rs.out.below hbl)
  replace HNs := Lib.hid (HNs.out.below hbl)
  replace HW := Lib.hid (bel_trans HW.out hbl); clear hbl
  go_wp2_with fail
  refine (refDiv_any a b _ (by have := decL_top LA.out; omega) (by have := decL_top LB.out; omega) HB0.out).mono ?_
  rintro e w17 ⟨rfl, hbl⟩
  replace RA := Lib.hid (RA.out.below hbl)
  replace RB := Lib.hid (RB.out.below hbl)
  replace T := Lib.hid (T.out.below hbl)
  replace Rq := Lib.hid (Rq.out.below hbl)
  replace HNq := Lib.hid (HNq.out.below hbl)
  replace Rr := Lib.hid (Rr.out.below hbl)
  replace HNr := Lib.hid (HNr.out.below hbl)
  replace Rs := Lib.hid (Rs.out.below hbl)
  replace HNs := Lib.hid (HNs.out.below hbl)
  replace HW := Lib.hid (bel_trans HW.out hbl); clear hbl
  go_wp2_with fail
  have D := Lib.hid (DAt.new w17 (a / b) (a % b))
  have hbl := DAt.bel w17 (a / b) (a % b)
  generalize hwd : w17.alloc (.cells #[.string (dec (a / b)), .string (dec (a % b))] 51) = wd at D hbl ⊢
  replace RA := Lib.hid (RA.out.below hbl)
  replace RB := Lib.hid (RB.out.below hbl)
  replace T := Lib.hid (T.out.below hbl)
  replace Rq := Lib.hid (Rq.out.below hbl)
  replace HNq := Lib.hid (HNq.out.below hbl)
  replace Rr := Lib.hid (Rr.out.below hbl)
  replace HNr := Lib.hid (HNr.out.below hbl)
  replace Rs := Lib.hid (Rs.out.below hbl)
  replace HNs := Lib.hid (HNs.out.below hbl)
  replace HW := Lib.hid (bel_trans HW.out hbl); clear hbl hwd
  go_wp2_with fail
  refine (alive_any _ T.out).mono ?_
  rintro e w18 ⟨rfl, hbl⟩
  replace RA := Lib.hid (RA.out.below hbl)
  replace RB := Lib.hid (RB.out.below hbl)
  replace T := Lib.hid (T.out.below hbl)
  replace Rq := Lib.hid (Rq.out.below hbl)
  replace HNq := Lib.hid (HNq.out.below hbl)
  replace Rr := Lib.hid (Rr.out.below hbl)
  replace HNr := Lib.hid (HNr.out.below hbl)
  replace Rs := Lib.hid (Rs.out.below hbl)
  replace HNs := Lib.hid (HNs.out.below hbl)
  replace D := Lib.hid (D.out.below hbl)
  replace HW := Lib.hid (bel_trans HW.out hbl); clear hbl
  have Q1 := Lib.hid (fit_small (lt_top (Nat.div_le_self a b) LA.out))
  have Q2 := Lib.hid (fit_small (lt_top (Nat.mod_le a b) LA.out))
  have d0 := D.out.q
  go_wp2_with fail
  refine (is_any _ (a / b) 0 _ (by rw [Q1.out.1]; exact HNq.out) Q1.out.2.symm).mono ?_
  rintro e w19 ⟨rfl, hbl⟩
  replace RA := Lib.hid (RA.out.below hbl)
  replace RB := Lib.hid (RB.out.below hbl)
  replace T := Lib.hid (T.out.below hbl)
  replace Rq := Lib.hid (Rq.out.below hbl)
  replace HNq := Lib.hid (HNq.out.below hbl)
  replace Rr := Lib.hid (Rr.out.below hbl)
  replace HNr := Lib.hid (HNr.out.below hbl)
  replace Rs := Lib.hid (Rs.out.below hbl)
  replace HNs := Lib.hid (HNs.out.below hbl)
  replace D := Lib.hid (D.out.below hbl)
  replace HW := Lib.hid (bel_trans HW.out hbl); clear hbl
  clear d0
  have d1 := D.out.r
  go_wp2_with fail
  refine (is_any _ (a % b) 0 _ (by rw [Q2.out.1]; exact HNr.out) Q2.out.2.symm).mono ?_
  rintro e w20 ⟨rfl, hbl⟩
  replace RA := Lib.hid (RA.out.below hbl)
  replace RB := Lib.hid (RB.out.below hbl)
  replace T := Lib.hid (T.out.below hbl)
  replace Rq := Lib.hid (Rq.out.below hbl)
  replace HNq := Lib.hid (HNq.out.below hbl)
  replace Rr := Lib.hid (Rr.out.below hbl)
  replace HNr := Lib.hid (HNr.out.below hbl)
  replace Rs := Lib.hid (Rs.out.below hbl)
  replace HNs := Lib.hid (HNs.out.below hbl)
  replace D := Lib.hid (D.out.below hbl)
  replace HW := Lib.hid (bel_trans HW.out hbl); clear hbl
  go_wp2
  go_ret
  exact ⟨rfl, HW.out⟩

set_option maxRecDepth 100000 in
set_option maxHeartbeats 1000000 in
theorem parts_num_down (A A' : Option Addr) (cap cap' : Nat) (x0 y0 : List Nat) (i : Int) (a b : Nat) (w : World) (h : RdL w A x0) (h' : RdL w A' y0) (hc : x0.length ≤ cap) (hc' : y0.length ≤ cap') (ht : Bases w) (ha : few x0 = limbs a) (ha2 : a < Top) (hb : few y0 = limbs b) (hb2 : b < Top) (hb0 : b ≠ 0) (ha0 : a ≠ 0) (m : Nat) (him : i = -(m : Int)) (hi : m ≤ 600) (hi0 : 0 < m) :
    Calls Tryd.prog 4 #[.slice A x0.length cap, .slice A' y0.length cap', .int .i64 i] w (RetT w) := by
  have RA := Lib.hid (show RdL w A (few x0) from h.take 18); clear h
  have RB := Lib.hid (show RdL w A' (few y0) from h'.take 18); clear h'
  have T := Lib.hid ht; clear ht
  rw [ha] at RA
  have F1 := Lib.hid (And.intro hc ha); clear hc ha
  have LA := Lib.hid ha2; clear ha2
  rw [hb] at RB
  have F2 := Lib.hid (And.intro hc' hb); clear hc' hb
  have LB := Lib.hid hb2; clear hb2
  have hlb : ¬ (((limbs b).length : Int) = 0) := by have := digs_len_pos B32_two hb0; show ¬ (((digs B32 b).length : Nat) : Int) = 0; omega
  have HB0 := Lib.hid hb0; clear hb0
  have HW := Lib.hid (bel_refl w)
  subst him
  obtain ⟨p, hp⟩ : ∃ p, 2 ^ m = p := ⟨_, rfl⟩
  have hpl := power_len hp (by omega)
  have hpp : p ≠ 0 := by rw [← hp]; exact pow_ne m
  have HP := Lib.hid (And.intro hp (And.intro hpl hpp)); clear hp hpl hpp
  have i1 : ¬ 600 < -(m : Int) := by omega
  have i2 : ¬ -(m : Int) < -600 := by omega
  have i3 : ¬ (0 : Int) ≤ -(m : Int) := by omega
  have i4 : -(m : Int) < 0 := by omega
  have hneg : IntKind.i64.wrap (-(-(m : Int))) = (m : Int) := by rw [IntKind.wrap_i64]; omega
  have hneg2 : IntKind.i64.wrap (m : Int) = (m : Int) := by rw [IntKind.wrap_i64]; omega
  obtain ⟨k, nb, p1, p2, q1, q2, q3, q4, q5, q6, q7⟩ := bits_powers LA.out ha0
  have e1 : ¬ cmpI (a : Int) (p1 : Int) < 0 := by have := cmp_ge (a := a) (b := p1) (by omega); omega
  have e2 : cmpI (a : Int) (p2 : Int) = -1 := cmpI_lt (by omega)
  have hk1 : IntKind.i64.wrap ((nb : Int) - 1) = (k : Int) := by rw [IntKind.wrap_i64]; omega
  have hn0 : (0 : Int) < (nb : Int) := by omega
  have hk2 : k ≤ 1000 := by omega
  have hnz : ((nb : Int) == 0) = false := by simp; omega
  have hnz2 : ¬ ((nb : Int) = 0) := by omega
  have HA0 := Lib.hid ha0; clear ha0
  have HQ := Lib.hid (And.intro q1 (And.intro q2 (And.intro q4 (And.intro q5 (And.intro q6 q7))))); clear q1 q2 q4 q5 q6 q7
  have hfd := fun W => field_q (dec (a / p)) (dec (a % p)) W
  go_enter Tryd.func4, Tryd.ntmps4
  go_wp2_with fail
  refine (few_is A cap x0 (limbs a) _ F1.out.1 F1.out.2).mono ?_
  rintro e w1 ⟨rfl, hbl⟩
  replace RA := Lib.hid (RA.out.below hbl)
  replace RB := Lib.hid (RB.out.below hbl)
  replace T := Lib.hid (T.out.below hbl)
  replace HW := Lib.hid (bel_trans HW.out hbl); clear hbl
  go_wp2_with fail
  refine (few_is A' cap' y0 (limbs b) _ F2.out.1 F2.out.2).mono ?_
  rintro e w2 ⟨rfl, hbl⟩
  replace RA := Lib.hid (RA.out.below hbl)
  replace RB := Lib.hid (RB.out.below hbl)
  replace T := Lib.hid (T.out.below hbl)
  replace HW := Lib.hid (bel_trans HW.out hbl); clear hbl
  go_wp2_with fail
  refine (div_num A A' cap cap' a b _ RA.out RB.out LA.out LB.out HB0.out).mono ?_
  rintro e w3 ⟨vq, vr, rfl, hnq, hnr, hbl⟩
  replace RA := Lib.hid (RA.out.below hbl)
  replace RB := Lib.hid (RB.out.below hbl)
  replace T := Lib.hid (T.out.below hbl)
  replace HW := Lib.hid (bel_trans HW.out hbl); clear hbl
  have HNq := Lib.hid hnq; clear hnq
  obtain ⟨Aq, cq, rfl, hcq, hrq⟩ := HNq.out.row
  have Rq := Lib.hid hrq; clear hrq hcq
  have HNr := Lib.hid hnr; clear hnr
  obtain ⟨Ar, cr, rfl, hcr, hrr⟩ := HNr.out.row
  have Rr := Lib.hid hrr; clear hrr hcr
  go_wp2_with fail
  refine (shift_downS A cap a m (a / p) _ RA.out LA.out (by rw [HP.out.1])).mono ?_
  rintro e w4 ⟨vs, rfl, hns, hbl⟩
  replace RA := Lib.hid (RA.out.below hbl)
  replace RB := Lib.hid (RB.out.below hbl)
  replace T := Lib.hid (T.out.below hbl)
  replace Rq := Lib.hid (Rq.out.below hbl)
  replace HNq := Lib.hid (HNq.out.below hbl)
  replace Rr := Lib.hid (Rr.out.below hbl)
  replace HNr := Lib.hid (HNr.out.below hbl)
  replace HW := Lib.hid (bel_trans HW.out hbl); clear hbl
  have HNs := Lib.hid hns; clear hns
  obtain ⟨As, cs, rfl, hcs, hrs⟩ := HNs.out.row
  have Rs := Lib.hid hrs; clear hrs hcs
  go_wp2_with fail
  refine (bits_is A cap a nb _ RA.out LA.out HQ.out.1).mono ?_
  rintro e w5 ⟨rfl, hbl⟩
  replace RA := Lib.hid (RA.out.below hbl)
  replace RB := Lib.hid (RB.out.below hbl)
  replace T := Lib.hid (T.out.below hbl)
  replace Rq := Lib.hid (Rq.out.below hbl)
  replace HNq := Lib.hid (HNq.out.below hbl)
  replace Rr := Lib.hid (Rr.out.below hbl)
  replace HNr := Lib.hid (HNr.out.below hbl)
  replace Rs := Lib.hid (Rs.out.below hbl)
  replace HNs := Lib.hid (HNs.out.below hbl)
  replace HW := Lib.hid (bel_trans HW.out hbl); clear hbl
  go_wp2_with fail
  refine (refRightR LA.out A cap _ RA.out).mono ?_
  rintro e w6 ⟨rfl, hbl⟩
  replace RA := Lib.hid (RA.out.below hbl)
  replace RB := Lib.hid (RB.out.below hbl)
  replace T := Lib.hid (T.out.below hbl)
  replace Rq := Lib.hid (Rq.out.below hbl)
  replace HNq := Lib.hid (HNq.out.below hbl)
  replace Rr := Lib.hid (Rr.out.below hbl)
  replace HNr := Lib.hid (HNr.out.below hbl)
  replace Rs := Lib.hid (Rs.out.below hbl)
  replace HNs := Lib.hid (HNs.out.below hbl)
  replace HW := Lib.hid (bel_trans HW.out hbl); clear hbl
  go_wp2_with fail
  refine (text_num A cap a _ RA.out LA.out).mono ?_
  rintro e w7 ⟨rfl, hbl⟩
  replace RA := Lib.hid (RA.out.below hbl)
  replace RB := Lib.hid (RB.out.below hbl)
  replace T := Lib.hid (T.out.below hbl)
  replace Rq := Lib.hid (Rq.out.below hbl)
  replace HNq := Lib.hid (HNq.out.below hbl)
  replace Rr := Lib.hid (Rr.out.below hbl)
  replace HNr := Lib.hid (HNr.out.below hbl)
  replace Rs := Lib.hid (Rs.out.below hbl)
  replace HNs := Lib.hid (HNs.out.below hbl)
  replace HW := Lib.hid (bel_trans HW.out hbl); clear hbl
  go_wp2_with fail
  refine (power_is k p1 _ HQ.out.2.2.1 (by omega)).mono ?_
  rintro e w8 ⟨rfl, hbl⟩
  replace RA := Lib.hid (RA.out.below hbl)
  replace RB := Lib.hid (RB.out.below hbl)
  replace T := Lib.hid (T.out.below hbl)
  replace Rq := Lib.hid (Rq.out.below hbl)
  replace HNq := Lib.hid (HNq.out.below hbl)
  replace Rr := Lib.hid (Rr.out.below hbl)
  replace HNr := Lib.hid (HNr.out.below hbl)
  replace Rs := Lib.hid (Rs.out.below hbl)
  replace HNs := Lib.hid (HNs.out.below hbl)
  replace HW := Lib.hid (bel_trans HW.out hbl); clear hbl
  go_wp2_with fail
  refine (refCmp_bb a p1 _).mono ?_
  rintro e w9 ⟨rfl, hbl⟩
  replace RA := Lib.hid (RA.out.below hbl)
  replace RB := Lib.hid (RB.out.below hbl)
  replace T := Lib.hid (T.out.below hbl)
  replace Rq := Lib.hid (Rq.out.below hbl)
  replace HNq := Lib.hid (HNq.out.below hbl)
  replace Rr := Lib.hid (Rr.out.below hbl)
  replace HNr := Lib.hid (HNr.out.below hbl)
  replace Rs := Lib.hid (Rs.out.below hbl)
  replace HNs := Lib.hid (HNs.out.below hbl)
  replace HW := Lib.hid (bel_trans HW.out hbl); clear hbl
  go_wp2_with fail
  refine (power_is nb p2 _ HQ.out.2.2.2.1 (by omega)).mono ?_
  rintro e w10 ⟨rfl, hbl⟩
  replace RA := Lib.hid (RA.out.below hbl)
  replace RB := Lib.hid (RB.out.below hbl)
  replace T := Lib.hid (T.out.below hbl)
  replace Rq := Lib.hid (Rq.out.below hbl)
  replace HNq := Lib.hid (HNq.out.below hbl)
  replace Rr := Lib.hid (Rr.out.below hbl)
  replace HNr := Lib.hid (HNr.out.below hbl)
  replace Rs := Lib.hid (Rs.out.below hbl)
  replace HNs := Lib.hid (HNs.out.below hbl)
  replace HW := Lib.hid (bel_trans HW.out hbl); clear hbl
  go_wp2_with fail
  refine (refCmp_bb a p2 _).mono ?_
  rintro e w11 ⟨rfl, hbl⟩
  replace RA := Lib.hid (RA.out.below hbl)
  replace RB := Lib.hid (RB.out.below hbl)
  replace T := Lib.hid (T.out.below hbl)
  replace Rq := Lib.hid (Rq.out.below hbl)
  replace HNq := Lib.hid (HNq.out.below hbl)
  replace Rr := Lib.hid (Rr.out.below hbl)
  replace HNr := Lib.hid (HNr.out.below hbl)
  replace Rs := Lib.hid (Rs.out.below hbl)
  replace HNs := Lib.hid (HNs.out.below hbl)
  replace HW := Lib.hid (bel_trans HW.out hbl); clear hbl
  go_wp2_with fail
  refine (power_is m p _ HP.out.1 (by omega)).mono ?_
  rintro e w12 ⟨rfl, hbl⟩
  replace RA := Lib.hid (RA.out.below hbl)
  replace RB := Lib.hid (RB.out.below hbl)
  replace T := Lib.hid (T.out.below hbl)
  replace Rq := Lib.hid (Rq.out.below hbl)
  replace HNq := Lib.hid (HNq.out.below hbl)
  replace Rr := Lib.hid (Rr.out.below hbl)
  replace HNr := Lib.hid (HNr.out.below hbl)
  replace Rs := Lib.hid (Rs.out.below hbl)
  replace HNs := Lib.hid (HNs.out.below hbl)
  replace HW := Lib.hid (bel_trans HW.out hbl); clear hbl
  go_wp2_with fail
  refine (refDiv_any a p _ (by have := decL_top LA.out; omega) (by have := HP.out.2.1; omega) HP.out.2.2).mono ?_
  rintro e w13 ⟨rfl, hbl⟩
  replace RA := Lib.hid (RA.out.below hbl)
  replace RB := Lib.hid (RB.out.below hbl)
  replace T := Lib.hid (T.out.below hbl)
  replace Rq := Lib.hid (Rq.out.below hbl)
  replace HNq := Lib.hid (HNq.out.below hbl)
  replace Rr := Lib.hid (Rr.out.below hbl)
  replace HNr := Lib.hid (HNr.out.below hbl)
  replace Rs := Lib.hid (Rs.out.below hbl)
  replace HNs := Lib.hid (HNs.out.below hbl)
  replace HW := Lib.hid (bel_trans HW.out hbl); clear hbl
  have QS := Lib.hid (fit_small (lt_top (Nat.div_le_self a p) LA.out))
  go_wp2_with fail
  refine (is_any _ (a / p) 0 _ (by rw [QS.out.1]; exact HNs.out) QS.out.2.symm).mono ?_
  rintro e w14 ⟨rfl, hbl⟩
  replace RA := Lib.hid (RA.out.below hbl)
  replace RB := Lib.hid (RB.out.below hbl)
  replace T := Lib.hid (T.out.below hbl)
  replace Rq := Lib.hid (Rq.out.below hbl)
  replace HNq := Lib.hid (HNq.out.below hbl)
  replace Rr := Lib.hid (Rr.out.below hbl)
  replace HNr := Lib.hid (HNr.out.below hbl)
  replace Rs := Lib.hid (Rs.out.below hbl)
  replace HNs := Lib.hid (HNs.out.below hbl)
  replace HW := Lib.hid (bel_trans HW.out hbl); clear hbl
  go_wp2_with fail
  refine (refRightR LB.out A' cap' _ RB.out).mono ?_
  rintro e w15 ⟨rfl, hbl⟩
  replace RA := Lib.hid (RA.out.below hbl)
  replace RB := Lib.hid (RB.out.below hbl)
  replace T := Lib.hid (T.out.below hbl)
  replace Rq := Lib.hid (Rq.out.below hbl)
  replace HNq := Lib.hid (HNq.out.below hbl)
  replace Rr := Lib.hid (Rr.out.below hbl)
  replace HNr := Lib.hid (HNr.out.below hbl)
  replace Rs := Lib.hid (Rs.out.below hbl)
  replace HNs := Lib.hid (HNs.out.below hbl)
  replace HW := Lib.hid (bel_trans HW.out hbl); clear hbl
  go_wp2_with fail
  refine (text_num A' cap' b _ RB.out LB.out).mono ?_
  rintro e w16 ⟨rfl, hbl⟩
  replace RA := Lib.hid (RA.out.below hbl)
  replace RB := Lib.hid (RB.out.below hbl)
  replace T := Lib.hid (T.out.below hbl)
  replace Rq := Lib.hid (Rq.out.below hbl)
  replace HNq := Lib.hid (HNq.out.below hbl)
  replace Rr := Lib.hid (Rr.out.below hbl)
  replace HNr := Lib.hid (HNr.out.below hbl)
  replace Rs := Lib.hid (Rs.out.below hbl)
  replace HNs := Lib.hid (HNs.out.below hbl)
  replace HW := Lib.hid (bel_trans HW.out hbl); clear hbl
  go_wp2_with fail
  refine (refDiv_any a b _ (by have := decL_top LA.out; omega) (by have := decL_top LB.out; omega) HB0.out).mono ?_
  rintro e w17 ⟨rfl, hbl⟩
  replace RA := Lib.hid (RA.out.below hbl)
  replace RB := Lib.hid (RB.out.below hbl)
  replace T := Lib.hid (T.out.below hbl)
  replace Rq := Lib.hid (Rq.out.below hbl)
  replace HNq := Lib.hid (HNq.out.below hbl)
  replace Rr := Lib.hid (Rr.out.below hbl)
  replace HNr := Lib.hid (HNr.out.below hbl)
  replace Rs := Lib.hid (Rs.out.below hbl)
  replace HNs := Lib.hid (HNs.out.below hbl)
  replace HW := Lib.hid (bel_trans HW.out hbl); clear hbl
  go_wp2_with fail
  have D := Lib.hid (DAt.new w17 (a / b) (a % b))
  have hbl := DAt.bel w17 (a / b) (a % b)
  generalize hwd : w17.alloc (.cells #[.string (dec (a / b)), .string (dec (a % b))] 51) = wd at D hbl ⊢
  replace RA := Lib.hid (RA.out.below hbl)
  replace RB := Lib.hid (RB.out.below hbl)
  replace T := Lib.hid (T.out.below hbl)
  replace Rq := Lib.hid (Rq.out.below hbl)
  replace HNq := Lib.hid (HNq.out.below hbl)
  replace Rr := Lib.hid (Rr.out.below hbl)
  replace HNr := Lib.hid (HNr.out.below hbl)
  replace Rs := Lib.hid (Rs.out.below hbl)
  replace HNs := Lib.hid (HNs.out.below hbl)
  replace HW := Lib.hid (bel_trans HW.out hbl); clear hbl hwd
  go_wp2_with fail
  refine (alive_any _ T.out).mono ?_
  rintro e w18 ⟨rfl, hbl⟩
  replace RA := Lib.hid (RA.out.below hbl)
  replace RB := Lib.hid (RB.out.below hbl)
  replace T := Lib.hid (T.out.below hbl)
  replace Rq := Lib.hid (Rq.out.below hbl)
  replace HNq := Lib.hid (HNq.out.below hbl)
  replace Rr := Lib.hid (Rr.out.below hbl)
  replace HNr := Lib.hid (HNr.out.below hbl)
  replace Rs := Lib.hid (Rs.out.below hbl)
  replace HNs := Lib.hid (HNs.out.below hbl)
  replace D := Lib.hid (D.out.below hbl)
  replace HW := Lib.hid (bel_trans HW.out hbl); clear hbl
  have Q1 := Lib.hid (fit_small (lt_top (Nat.div_le_self a b) LA.out))
  have Q2 := Lib.hid (fit_small (lt_top (Nat.mod_le a b) LA.out))
  have d0 := D.out.q
  go_wp2_with fail
  refine (is_any _ (a / b) 0 _ (by rw [Q1.out.1]; exact HNq.out) Q1.out.2.symm).mono ?_
  rintro e w19 ⟨rfl, hbl⟩
  replace RA := Lib.hid (RA.out.below hbl)
  replace RB := Lib.hid (RB.out.below hbl)
  replace T := Lib.hid (T.out.below hbl)
  replace Rq := Lib.hid (Rq.out.below hbl)
  replace HNq := Lib.hid (HNq.out.below hbl)
  replace Rr := Lib.hid (Rr.out.below hbl)
  replace HNr := Lib.hid (HNr.out.below hbl)
  replace Rs := Lib.hid (Rs.out.below hbl)
  replace HNs := Lib.hid (HNs.out.below hbl)
  replace D := Lib.hid (D.out.below hbl)
  replace HW := Lib.hid (bel_trans HW.out hbl); clear hbl
  clear d0
  have d1 := D.out.r
  go_wp2_with fail
  refine (is_any _ (a % b) 0 _ (by rw [Q2.out.1]; exact HNr.out) Q2.out.2.symm).mono ?_
  rintro e w20 ⟨rfl, hbl⟩
  replace RA := Lib.hid (RA.out.below hbl)
  replace RB := Lib.hid (RB.out.below hbl)
  replace T := Lib.hid (T.out.below hbl)
  replace Rq := Lib.hid (Rq.out.below hbl)
  replace HNq := Lib.hid (HNq.out.below hbl)
  replace Rr := Lib.hid (Rr.out.below hbl)
  replace HNr := Lib.hid (HNr.out.below hbl)
  replace Rs := Lib.hid (Rs.out.below hbl)
  replace HNs := Lib.hid (HNs.out.below hbl)
  replace D := Lib.hid (D.out.below hbl)
  replace HW := Lib.hid (bel_trans HW.out hbl); clear hbl
  go_wp2
  go_ret
  exact ⟨rfl, HW.out⟩

theorem parts_num_all (A A' : Option Addr) (cap cap' : Nat) (x0 y0 : List Nat) (i : Int) (a b : Nat) (w : World) (h : RdL w A x0) (h' : RdL w A' y0) (hc : x0.length ≤ cap) (hc' : y0.length ≤ cap') (ht : Bases w) (ha : few x0 = limbs a) (ha2 : a < Top) (hb : few y0 = limbs b) (hb2 : b < Top) (hb0 : b ≠ 0) :
    Calls Tryd.prog 4 #[.slice A x0.length cap, .slice A' y0.length cap', .int .i64 i] w (RetT w) := by
  by_cases ha0 : a = 0
  · by_cases h1 : 600 < i
    · exact parts_num_nila A A' cap cap' x0 y0 i a b w h h' hc hc' ht ha ha2 hb hb2 hb0 ha0 h1
    · by_cases h2 : i < -600
      · exact parts_num_nilb A A' cap cap' x0 y0 i a b w h h' hc hc' ht ha ha2 hb hb2 hb0 ha0 h2
      · exact parts_num_nilc A A' cap cap' x0 y0 i a b w h h' hc hc' ht ha ha2 hb hb2 hb0 ha0 h1 h2
  · by_cases h1 : 600 < i
    · exact parts_num_far A A' cap cap' x0 y0 i a b w h h' hc hc' ht ha ha2 hb hb2 hb0 ha0 h1
    · by_cases h2 : i < -600
      · exact parts_num_gone A A' cap cap' x0 y0 i a b w h h' hc hc' ht ha ha2 hb hb2 hb0 ha0 h2
      · by_cases h3 : 0 ≤ i
        · exact parts_num_up A A' cap cap' x0 y0 i a b w h h' hc hc' ht ha ha2 hb hb2 hb0 ha0 i.toNat (by omega) (by omega)
        · exact parts_num_down A A' cap cap' x0 y0 i a b w h h' hc hc' ht ha ha2 hb hb2 hb0 ha0 (-i).toNat (by omega) (by omega) (by omega)

theorem law_parts (A A' : Option Addr) (cap cap' : Nat) (x0 y0 : List Nat) (i : Int) (w : World) (h : RdL w A x0) (h' : RdL w A' y0) (hc : x0.length ≤ cap) (hc' : y0.length ≤ cap') (ht : Bases w) (hx : Lim x0) (hy : Lim y0) :
    Calls Tryd.prog 4 #[.slice A x0.length cap, .slice A' y0.length cap', .int .i64 i] w (RetT w) := by
  cases hr : rightL (few x0)
  · exact parts_wrong A A' cap cap' x0 y0 i w h h' hc hc' ht hx hr
  · obtain ⟨a, ha, ha2⟩ := right_num (few_lim hx) hr
    cases hr' : rightL (few y0)
    · exact parts_wrong_all A A' cap cap' x0 y0 i a w h h' hc hc' ht ha ha2 hr'
    · obtain ⟨b, hb, hb2⟩ := right_num (few_lim hy) hr'
      by_cases hb0 : b = 0
      · subst hb0
        exact parts_none_all A A' cap cap' x0 y0 i a w h h' hc hc' ht ha ha2 hb hb2
      · exact parts_num_all A A' cap cap' x0 y0 i a b w h h' hc hc' ht ha ha2 hb hb2 hb0
end Go.Proofs.YtmbbdjpnecjleaaDoor
