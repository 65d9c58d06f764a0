/-
  The law NatTexts, walked.
-/
import Derived.Test.YtmbbdjpnecjleaaDoorNLaw5
namespace Go.Proofs.YtmbbdjpnecjleaaDoor
open Go.RowKit

set_option maxRecDepth 100000 in
set_option maxHeartbeats 1000000 in
theorem texts_bad_arg (A : Option Addr) (cap : Nat) (x0 : List Nat) (n : Nat) (s0 s : ByteArray) (m : Nat) (i : Int) (w : World) (h : RdL w A x0) (hc : x0.length ≤ cap) (ht : Bases w) (hn : n < 18446744073709551616) (hm : m = min s0.size 200) (hs : s0.extract 0 m = s) (hsz : s.size ≤ 1000) (hr : rightL (few x0) = false) (hb : isBase i = false) :
    Calls Tryd.prog 3 #[.slice A x0.length cap, .int .u64 n, .string s0, .int .i64 i] w (RetT w) := by
  have RA := Lib.hid (show RdL w A (few x0) from h.take 18); clear h
  have T := Lib.hid ht; clear ht
  have l1 := few_le x0
  obtain ⟨xs, hxs⟩ : ∃ xs, few x0 = xs := ⟨_, rfl⟩
  rw [hxs] at RA l1 hr
  have F1 := Lib.hid (And.intro hc hxs); clear hc hxs
  have HR := Lib.hid hr; clear hr
  have hmin := min_int 200 s0.size 200 rfl
  rw [← hm] at hmin
  have hm' : (m : Int) ≤ (s0.size : Int) := by omega
  have HS := Lib.hid hs; clear hs
  have HZ := Lib.hid hsz; clear hsz
  clear hm
  obtain ⟨h, l, e1, e2, e3, e4, e5, e6, e7⟩ := halves n hn
  have HHL := Lib.hid (And.intro e5 (And.intro e6 e7)); clear e5 e6 e7
  have HN := Lib.hid hn; clear hn
  have HB := Lib.hid hb
  obtain ⟨b1, b2, b3, b4⟩ := base_not hb; clear hb
  have HW := Lib.hid (bel_refl w)
  go_enter Tryd.func3, Tryd.ntmps3
  go_wp2
  go_quiet (first | (go_at_call 8; exact Calls.quiet_of_same (few_same A cap x0 xs _ F1.out.1 F1.out.2)))
  go_wp2_with fail
  rw [HS.out]
  have hbl := bel_drewN (bel_refl w) nq
  generalize hwd : w.drewN nq = w0 at hbl ⊢
  replace RA := Lib.hid (RA.out.below hbl)
  replace T := Lib.hid (T.out.below hbl)
  replace HW := Lib.hid (bel_trans HW.out hbl); clear hbl hwd hmin hm'
  go_wp2_with fail
  refine (text_bad A cap xs _ RA.out l1 HR.out).mono ?_
  rintro e w1 ⟨rfl, hbl⟩
  replace RA := Lib.hid (RA.out.below hbl)
  replace T := Lib.hid (T.out.below hbl)
  replace HW := Lib.hid (bel_trans HW.out hbl); clear hbl
  go_wp2_with fail
  refine (parse_arg s i _ HB.out T.out).mono ?_
  rintro e w2 ⟨vp, rfl, hnp, hbl⟩
  replace RA := Lib.hid (RA.out.below hbl)
  replace T := Lib.hid (T.out.below hbl)
  replace HW := Lib.hid (bel_trans HW.out hbl); clear hbl
  have HNp := Lib.hid hnp; clear hnp
  obtain ⟨Ap, cp, rfl, hcp, hrp⟩ := HNp.out.row
  have Rp := Lib.hid hrp; clear hrp hcp
  rw [limbs0]
  go_wp2_with fail
  refine (of_any n _ HN.out).mono ?_
  rintro e w3 ⟨vo, rfl, hno, hbl⟩
  replace RA := Lib.hid (RA.out.below hbl)
  replace T := Lib.hid (T.out.below hbl)
  replace Rp := Lib.hid (Rp.out.below hbl)
  replace HNp := Lib.hid (HNp.out.below hbl)
  replace HW := Lib.hid (bel_trans HW.out hbl); clear hbl
  have HNo := Lib.hid hno; clear hno
  obtain ⟨Ao, co, rfl, hco, hro⟩ := HNo.out.row
  have Ro := Lib.hid hro; clear hro hco
  have LO := Lib.hid (small_top HN.out)
  go_wp2_with fail
  refine (rightR LO.out Ao co _ Ro.out).mono ?_
  rintro e w4 ⟨rfl, hbl⟩
  replace RA := Lib.hid (RA.out.below hbl)
  replace T := Lib.hid (T.out.below hbl)
  replace Rp := Lib.hid (Rp.out.below hbl)
  replace HNp := Lib.hid (HNp.out.below hbl)
  replace Ro := Lib.hid (Ro.out.below hbl)
  replace HNo := Lib.hid (HNo.out.below hbl)
  replace HW := Lib.hid (bel_trans HW.out hbl); clear hbl
  go_wp2_with fail
  refine (text_lim Ao co n _ Ro.out LO.out).mono ?_
  rintro e w5 ⟨rfl, hbl⟩
  replace RA := Lib.hid (RA.out.below hbl)
  replace T := Lib.hid (T.out.below hbl)
  replace Rp := Lib.hid (Rp.out.below hbl)
  replace HNp := Lib.hid (HNp.out.below hbl)
  replace Ro := Lib.hid (Ro.out.below hbl)
  replace HNo := Lib.hid (HNo.out.below hbl)
  replace HW := Lib.hid (bel_trans HW.out hbl); clear hbl
  go_wp2_with fail
  refine (small_one h _ HHL.out.1).mono ?_
  rintro e w6 ⟨rfl, hbl⟩
  replace RA := Lib.hid (RA.out.below hbl)
  replace T := Lib.hid (T.out.below hbl)
  replace Rp := Lib.hid (Rp.out.below hbl)
  replace HNp := Lib.hid (HNp.out.below hbl)
  replace Ro := Lib.hid (Ro.out.below hbl)
  replace HNo := Lib.hid (HNo.out.below hbl)
  replace HW := Lib.hid (bel_trans HW.out hbl); clear hbl
  have LH := Lib.hid (small_top (n := h) (by have := HHL.out.1; omega))
  go_wp2_with fail
  refine (refNat_any h _ LH.out).mono ?_
  rintro e w7 ⟨vh, rfl, hnh, hbl⟩
  replace RA := Lib.hid (RA.out.below hbl)
  replace T := Lib.hid (T.out.below hbl)
  replace Rp := Lib.hid (Rp.out.below hbl)
  replace HNp := Lib.hid (HNp.out.below hbl)
  replace Ro := Lib.hid (Ro.out.below hbl)
  replace HNo := Lib.hid (HNo.out.below hbl)
  replace HW := Lib.hid (bel_trans HW.out hbl); clear hbl
  have HNh := Lib.hid hnh; clear hnh
  obtain ⟨Ah, ch, rfl, hch, hrh⟩ := HNh.out.row
  have Rh := Lib.hid hrh; clear hrh hch
  go_wp2_with fail
  refine (text_lim Ah ch h _ Rh.out LH.out).mono ?_
  rintro e w8 ⟨rfl, hbl⟩
  replace RA := Lib.hid (RA.out.below hbl)
  replace T := Lib.hid (T.out.below hbl)
  replace Rp := Lib.hid (Rp.out.below hbl)
  replace HNp := Lib.hid (HNp.out.below hbl)
  replace Ro := Lib.hid (Ro.out.below hbl)
  replace HNo := Lib.hid (HNo.out.below hbl)
  replace Rh := Lib.hid (Rh.out.below hbl)
  replace HNh := Lib.hid (HNh.out.below hbl)
  replace HW := Lib.hid (bel_trans HW.out hbl); clear hbl
  go_wp2_with fail
  refine (small_32 h l n _ HHL.out.1 HHL.out.2.1 HHL.out.2.2).mono ?_
  rintro e w9 ⟨rfl, hbl⟩
  replace RA := Lib.hid (RA.out.below hbl)
  replace T := Lib.hid (T.out.below hbl)
  replace Rp := Lib.hid (Rp.out.below hbl)
  replace HNp := Lib.hid (HNp.out.below hbl)
  replace Ro := Lib.hid (Ro.out.below hbl)
  replace HNo := Lib.hid (HNo.out.below hbl)
  replace Rh := Lib.hid (Rh.out.below hbl)
  replace HNh := Lib.hid (HNh.out.below hbl)
  replace HW := Lib.hid (bel_trans HW.out hbl); clear hbl
  go_wp2_with fail
  refine (alive_any _ T.out).mono ?_
  rintro e w10 ⟨rfl, hbl⟩
  replace RA := Lib.hid (RA.out.below hbl)
  replace T := Lib.hid (T.out.below hbl)
  replace Rp := Lib.hid (Rp.out.below hbl)
  replace HNp := Lib.hid (HNp.out.below hbl)
  replace Ro := Lib.hid (Ro.out.below hbl)
  replace HNo := Lib.hid (HNo.out.below hbl)
  replace Rh := Lib.hid (Rh.out.below hbl)
  replace HNh := Lib.hid (HNh.out.below hbl)
  replace HW := Lib.hid (bel_trans HW.out hbl); clear hbl
  go_wp2_with fail
  refine (refRight_bb A cap xs _ RA.out l1).mono ?_
  rintro e w11 ⟨rfl, hbl⟩
  replace RA := Lib.hid (RA.out.below hbl)
  replace T := Lib.hid (T.out.below hbl)
  replace Rp := Lib.hid (Rp.out.below hbl)
  replace HNp := Lib.hid (HNp.out.below hbl)
  replace Ro := Lib.hid (Ro.out.below hbl)
  replace HNo := Lib.hid (HNo.out.below hbl)
  replace Rh := Lib.hid (Rh.out.below hbl)
  replace HNh := Lib.hid (HNh.out.below hbl)
  replace HW := Lib.hid (bel_trans HW.out hbl); clear hbl
  rw [HR.out]
  go_wp2_with fail
  refine (refRight_bb A cap xs _ RA.out l1).mono ?_
  rintro e w12 ⟨rfl, hbl⟩
  replace RA := Lib.hid (RA.out.below hbl)
  replace T := Lib.hid (T.out.below hbl)
  replace Rp := Lib.hid (Rp.out.below hbl)
  replace HNp := Lib.hid (HNp.out.below hbl)
  replace Ro := Lib.hid (Ro.out.below hbl)
  replace HNo := Lib.hid (HNo.out.below hbl)
  replace Rh := Lib.hid (Rh.out.below hbl)
  replace HNh := Lib.hid (HNh.out.below hbl)
  replace HW := Lib.hid (bel_trans HW.out hbl); clear hbl
  rw [HR.out]
  go_wp2
  go_ret
  exact ⟨rfl, HW.out⟩

set_option maxRecDepth 100000 in
set_option maxHeartbeats 1000000 in
theorem texts_bad_syn (A : Option Addr) (cap : Nat) (x0 : List Nat) (n : Nat) (s0 s : ByteArray) (m : Nat) (b : Nat) (w : World) (h : RdL w A x0) (hc : x0.length ≤ cap) (ht : Bases w) (hn : n < 18446744073709551616) (hm : m = min s0.size 200) (hs : s0.extract 0 m = s) (hsz : s.size ≤ 1000) (hr : rightL (few x0) = false) (hb : isBase b = true) (ho : (!oddIn b (codes s) && decide (0 < s.size)) = false) :
    Calls Tryd.prog 3 #[.slice A x0.length cap, .int .u64 n, .string s0, .int .i64 b] w (RetT w) := by
  have RA := Lib.hid (show RdL w A (few x0) from h.take 18); clear h
  have T := Lib.hid ht; clear ht
  have l1 := few_le x0
  obtain ⟨xs, hxs⟩ : ∃ xs, few x0 = xs := ⟨_, rfl⟩
  rw [hxs] at RA l1 hr
  have F1 := Lib.hid (And.intro hc hxs); clear hc hxs
  have HR := Lib.hid hr; clear hr
  have hmin := min_int 200 s0.size 200 rfl
  rw [← hm] at hmin
  have hm' : (m : Int) ≤ (s0.size : Int) := by omega
  have HS := Lib.hid hs; clear hs
  have HZ := Lib.hid hsz; clear hsz
  clear hm
  obtain ⟨h, l, e1, e2, e3, e4, e5, e6, e7⟩ := halves n hn
  have HHL := Lib.hid (And.intro e5 (And.intro e6 e7)); clear e5 e6 e7
  have HN := Lib.hid hn; clear hn
  have HB := Lib.hid hb
  have hbase := Lib.hid (base_is hb)
  have HBL := Lib.hid (base_le hb); clear hb
  have HO := Lib.hid ho; clear ho
  have HW := Lib.hid (bel_refl w)
  go_enter Tryd.func3, Tryd.ntmps3
  go_wp2
  go_quiet (first | (go_at_call 8; exact Calls.quiet_of_same (few_same A cap x0 xs _ F1.out.1 F1.out.2)))
  go_wp2_with fail
  rw [HS.out]
  have hbl := bel_drewN (bel_refl w) nq
  generalize hwd : w.drewN nq = w0 at hbl ⊢
  replace RA := Lib.hid (RA.out.below hbl)
  replace T := Lib.hid (T.out.below hbl)
  replace HW := Lib.hid (bel_trans HW.out hbl); clear hbl hwd hmin hm'
  go_wp2_with fail
  refine (text_bad A cap xs _ RA.out l1 HR.out).mono ?_
  rintro e w1 ⟨rfl, hbl⟩
  replace RA := Lib.hid (RA.out.below hbl)
  replace T := Lib.hid (T.out.below hbl)
  replace HW := Lib.hid (bel_trans HW.out hbl); clear hbl
  go_wp2_with fail
  refine (parse_syn s b _ HB.out T.out HZ.out HO.out).mono ?_
  rintro e w2 ⟨vp, rfl, hnp, hbl⟩
  replace RA := Lib.hid (RA.out.below hbl)
  replace T := Lib.hid (T.out.below hbl)
  replace HW := Lib.hid (bel_trans HW.out hbl); clear hbl
  have HNp := Lib.hid hnp; clear hnp
  obtain ⟨Ap, cp, rfl, hcp, hrp⟩ := HNp.out.row
  have Rp := Lib.hid hrp; clear hrp hcp
  rw [limbs0]
  go_wp2_with fail
  refine (of_any n _ HN.out).mono ?_
  rintro e w3 ⟨vo, rfl, hno, hbl⟩
  replace RA := Lib.hid (RA.out.below hbl)
  replace T := Lib.hid (T.out.below hbl)
  replace Rp := Lib.hid (Rp.out.below hbl)
  replace HNp := Lib.hid (HNp.out.below hbl)
  replace HW := Lib.hid (bel_trans HW.out hbl); clear hbl
  have HNo := Lib.hid hno; clear hno
  obtain ⟨Ao, co, rfl, hco, hro⟩ := HNo.out.row
  have Ro := Lib.hid hro; clear hro hco
  have LO := Lib.hid (small_top HN.out)
  go_wp2_with fail
  refine (rightR LO.out Ao co _ Ro.out).mono ?_
  rintro e w4 ⟨rfl, hbl⟩
  replace RA := Lib.hid (RA.out.below hbl)
  replace T := Lib.hid (T.out.below hbl)
  replace Rp := Lib.hid (Rp.out.below hbl)
  replace HNp := Lib.hid (HNp.out.below hbl)
  replace Ro := Lib.hid (Ro.out.below hbl)
  replace HNo := Lib.hid (HNo.out.below hbl)
  replace HW := Lib.hid (bel_trans HW.out hbl); clear hbl
  go_wp2_with fail
  refine (text_lim Ao co n _ Ro.out LO.out).mono ?_
  rintro e w5 ⟨rfl, hbl⟩
  replace RA := Lib.hid (RA.out.below hbl)
  replace T := Lib.hid (T.out.below hbl)
  replace Rp := Lib.hid (Rp.out.below hbl)
  replace HNp := Lib.hid (HNp.out.below hbl)
  replace Ro := Lib.hid (Ro.out.below hbl)
  replace HNo := Lib.hid (HNo.out.below hbl)
  replace HW := Lib.hid (bel_trans HW.out hbl); clear hbl
  go_wp2_with fail
  refine (small_one h _ HHL.out.1).mono ?_
  rintro e w6 ⟨rfl, hbl⟩
  replace RA := Lib.hid (RA.out.below hbl)
  replace T := Lib.hid (T.out.below hbl)
  replace Rp := Lib.hid (Rp.out.below hbl)
  replace HNp := Lib.hid (HNp.out.below hbl)
  replace Ro := Lib.hid (Ro.out.below hbl)
  replace HNo := Lib.hid (HNo.out.below hbl)
  replace HW := Lib.hid (bel_trans HW.out hbl); clear hbl
  have LH := Lib.hid (small_top (n := h) (by have := HHL.out.1; omega))
  go_wp2_with fail
  refine (refNat_any h _ LH.out).mono ?_
  rintro e w7 ⟨vh, rfl, hnh, hbl⟩
  replace RA := Lib.hid (RA.out.below hbl)
  replace T := Lib.hid (T.out.below hbl)
  replace Rp := Lib.hid (Rp.out.below hbl)
  replace HNp := Lib.hid (HNp.out.below hbl)
  replace Ro := Lib.hid (Ro.out.below hbl)
  replace HNo := Lib.hid (HNo.out.below hbl)
  replace HW := Lib.hid (bel_trans HW.out hbl); clear hbl
  have HNh := Lib.hid hnh; clear hnh
  obtain ⟨Ah, ch, rfl, hch, hrh⟩ := HNh.out.row
  have Rh := Lib.hid hrh; clear hrh hch
  go_wp2_with fail
  refine (text_lim Ah ch h _ Rh.out LH.out).mono ?_
  rintro e w8 ⟨rfl, hbl⟩
  replace RA := Lib.hid (RA.out.below hbl)
  replace T := Lib.hid (T.out.below hbl)
  replace Rp := Lib.hid (Rp.out.below hbl)
  replace HNp := Lib.hid (HNp.out.below hbl)
  replace Ro := Lib.hid (Ro.out.below hbl)
  replace HNo := Lib.hid (HNo.out.below hbl)
  replace Rh := Lib.hid (Rh.out.below hbl)
  replace HNh := Lib.hid (HNh.out.below hbl)
  replace HW := Lib.hid (bel_trans HW.out hbl); clear hbl
  go_wp2_with fail
  refine (small_32 h l n _ HHL.out.1 HHL.out.2.1 HHL.out.2.2).mono ?_
  rintro e w9 ⟨rfl, hbl⟩
  replace RA := Lib.hid (RA.out.below hbl)
  replace T := Lib.hid (T.out.below hbl)
  replace Rp := Lib.hid (Rp.out.below hbl)
  replace HNp := Lib.hid (HNp.out.below hbl)
  replace Ro := Lib.hid (Ro.out.below hbl)
  replace HNo := Lib.hid (HNo.out.below hbl)
  replace Rh := Lib.hid (Rh.out.below hbl)
  replace HNh := Lib.hid (HNh.out.below hbl)
  replace HW := Lib.hid (bel_trans HW.out hbl); clear hbl
  go_wp2_with fail
  refine (alive_any _ T.out).mono ?_
  rintro e w10 ⟨rfl, hbl⟩
  replace RA := Lib.hid (RA.out.below hbl)
  replace T := Lib.hid (T.out.below hbl)
  replace Rp := Lib.hid (Rp.out.below hbl)
  replace HNp := Lib.hid (HNp.out.below hbl)
  replace Ro := Lib.hid (Ro.out.below hbl)
  replace HNo := Lib.hid (HNo.out.below hbl)
  replace Rh := Lib.hid (Rh.out.below hbl)
  replace HNh := Lib.hid (HNh.out.below hbl)
  replace HW := Lib.hid (bel_trans HW.out hbl); clear hbl
  go_wp2_with fail
  refine (refRight_bb A cap xs _ RA.out l1).mono ?_
  rintro e w11 ⟨rfl, hbl⟩
  replace RA := Lib.hid (RA.out.below hbl)
  replace T := Lib.hid (T.out.below hbl)
  replace Rp := Lib.hid (Rp.out.below hbl)
  replace HNp := Lib.hid (HNp.out.below hbl)
  replace Ro := Lib.hid (Ro.out.below hbl)
  replace HNo := Lib.hid (HNo.out.below hbl)
  replace Rh := Lib.hid (Rh.out.below hbl)
  replace HNh := Lib.hid (HNh.out.below hbl)
  replace HW := Lib.hid (bel_trans HW.out hbl); clear hbl
  rw [HR.out]
  go_wp2_with fail
  refine (refRight_bb A cap xs _ RA.out l1).mono ?_
  rintro e w12 ⟨rfl, hbl⟩
  replace RA := Lib.hid (RA.out.below hbl)
  replace T := Lib.hid (T.out.below hbl)
  replace Rp := Lib.hid (Rp.out.below hbl)
  replace HNp := Lib.hid (HNp.out.below hbl)
  replace Ro := Lib.hid (Ro.out.below hbl)
  replace HNo := Lib.hid (HNo.out.below hbl)
  replace Rh := Lib.hid (Rh.out.below hbl)
  replace HNh := Lib.hid (HNh.out.below hbl)
  replace HW := Lib.hid (bel_trans HW.out hbl); clear hbl
  rw [HR.out]
  rcases hbase.out with b1 | ⟨b1, b2⟩ | ⟨b1, b2, b3⟩ | ⟨b1, b2, b3, b4⟩
  · go_wp2_with fail
    refine (syn_is s b false _ HZ.out HO.out).mono ?_
    rintro e w13 ⟨rfl, hbl⟩
    replace RA := Lib.hid (RA.out.below hbl)
    replace T := Lib.hid (T.out.below hbl)
    replace Rp := Lib.hid (Rp.out.below hbl)
    replace HNp := Lib.hid (HNp.out.below hbl)
    replace Ro := Lib.hid (Ro.out.below hbl)
    replace HNo := Lib.hid (HNo.out.below hbl)
    replace Rh := Lib.hid (Rh.out.below hbl)
    replace HNh := Lib.hid (HNh.out.below hbl)
    replace HW := Lib.hid (bel_trans HW.out hbl); clear hbl
    go_wp2
    go_ret
    exact ⟨rfl, HW.out⟩
  · go_wp2_with fail
    refine (syn_is s b false _ HZ.out HO.out).mono ?_
    rintro e w13 ⟨rfl, hbl⟩
    replace RA := Lib.hid (RA.out.below hbl)
    replace T := Lib.hid (T.out.below hbl)
    replace Rp := Lib.hid (Rp.out.below hbl)
    replace HNp := Lib.hid (HNp.out.below hbl)
    replace Ro := Lib.hid (Ro.out.below hbl)
    replace HNo := Lib.hid (HNo.out.below hbl)
    replace Rh := Lib.hid (Rh.out.below hbl)
    replace HNh := Lib.hid (HNh.out.below hbl)
    replace HW := Lib.hid (bel_trans HW.out hbl); clear hbl
    go_wp2
    go_ret
    exact ⟨rfl, HW.out⟩
  · go_wp2_with fail
    refine (syn_is s b false _ HZ.out HO.out).mono ?_
    rintro e w13 ⟨rfl, hbl⟩
    replace RA := Lib.hid (RA.out.below hbl)
    replace T := Lib.hid (T.out.below hbl)
    replace Rp := Lib.hid (Rp.out.below hbl)
    replace HNp := Lib.hid (HNp.out.below hbl)
    replace Ro := Lib.hid (Ro.out.below hbl)
    replace HNo := Lib.hid (HNo.out.below hbl)
    replace Rh := Lib.hid (Rh.out.below hbl)
    replace HNh := Lib.hid (HNh.out.below hbl)
    replace HW := Lib.hid (bel_trans HW.out hbl); clear hbl
    go_wp2
    go_ret
    exact ⟨rfl, HW.out⟩
  · go_wp2_with fail
    refine (syn_is s b false _ HZ.out HO.out).mono ?_
    rintro e w13 ⟨rfl, hbl⟩
    replace RA := Lib.hid (RA.out.below hbl)
    replace T := Lib.hid (T.out.below hbl)
    replace Rp := Lib.hid (Rp.out.below hbl)
    replace HNp := Lib.hid (HNp.out.below hbl)
    replace Ro := Lib.hid (Ro.out.below hbl)
    replace HNo := Lib.hid (HNo.out.below hbl)
    replace Rh := Lib.hid (Rh.out.below hbl)
    replace HNh := Lib.hid (HNh.out.below hbl)
    replace HW := Lib.hid (bel_trans HW.out hbl); clear hbl
    go_wp2
    go_ret
    exact ⟨rfl, HW.out⟩

set_option maxRecDepth 100000 in
set_option maxHeartbeats 1000000 in
theorem texts_bad_num (A : Option Addr) (cap : Nat) (x0 : List Nat) (n : Nat) (s0 s : ByteArray) (m : Nat) (b : Nat) (w : World) (h : RdL w A x0) (hc : x0.length ≤ cap) (ht : Bases w) (hn : n < 18446744073709551616) (hm : m = min s0.size 200) (hs : s0.extract 0 m = s) (hsz : s.size ≤ 1000) (hr : rightL (few x0) = false) (hb : isBase b = true) (ho : (!oddIn b (codes s) && decide (0 < s.size)) = true) :
    Calls Tryd.prog 3 #[.slice A x0.length cap, .int .u64 n, .string s0, .int .i64 b] w (RetT w) := by
  have RA := Lib.hid (show RdL w A (few x0) from h.take 18); clear h
  have T := Lib.hid ht; clear ht
  have l1 := few_le x0
  obtain ⟨xs, hxs⟩ : ∃ xs, few x0 = xs := ⟨_, rfl⟩
  rw [hxs] at RA l1 hr
  have F1 := Lib.hid (And.intro hc hxs); clear hc hxs
  have HR := Lib.hid hr; clear hr
  have hmin := min_int 200 s0.size 200 rfl
  rw [← hm] at hmin
  have hm' : (m : Int) ≤ (s0.size : Int) := by omega
  have HS := Lib.hid hs; clear hs
  have HZ := Lib.hid hsz; clear hsz
  clear hm
  obtain ⟨h, l, e1, e2, e3, e4, e5, e6, e7⟩ := halves n hn
  have HHL := Lib.hid (And.intro e5 (And.intro e6 e7)); clear e5 e6 e7
  have HN := Lib.hid hn; clear hn
  have HB := Lib.hid hb
  have hbase := Lib.hid (base_is hb)
  have HBL := Lib.hid (base_le hb); clear hb
  have HO := Lib.hid ho; clear ho
  have HW := Lib.hid (bel_refl w)
  go_enter Tryd.func3, Tryd.ntmps3
  go_wp2
  go_quiet (first | (go_at_call 8; exact Calls.quiet_of_same (few_same A cap x0 xs _ F1.out.1 F1.out.2)))
  go_wp2_with fail
  rw [HS.out]
  have hbl := bel_drewN (bel_refl w) nq
  generalize hwd : w.drewN nq = w0 at hbl ⊢
  replace RA := Lib.hid (RA.out.below hbl)
  replace T := Lib.hid (T.out.below hbl)
  replace HW := Lib.hid (bel_trans HW.out hbl); clear hbl hwd hmin hm'
  go_wp2_with fail
  refine (text_bad A cap xs _ RA.out l1 HR.out).mono ?_
  rintro e w1 ⟨rfl, hbl⟩
  replace RA := Lib.hid (RA.out.below hbl)
  replace T := Lib.hid (T.out.below hbl)
  replace HW := Lib.hid (bel_trans HW.out hbl); clear hbl
  go_wp2_with fail
  refine (parse_ok s b _ HB.out T.out (syn_parts HO.out).1 HZ.out HBL.out.1 HBL.out.2 (syn_parts HO.out).2).mono ?_
  rintro e w2 ⟨vp, rfl, hnp, hbl⟩
  replace RA := Lib.hid (RA.out.below hbl)
  replace T := Lib.hid (T.out.below hbl)
  replace HW := Lib.hid (bel_trans HW.out hbl); clear hbl
  have HNp := Lib.hid hnp; clear hnp
  obtain ⟨Ap, cp, rfl, hcp, hrp⟩ := HNp.out.row
  have Rp := Lib.hid hrp; clear hrp hcp
  go_wp2_with fail
  refine (of_any n _ HN.out).mono ?_
  rintro e w3 ⟨vo, rfl, hno, hbl⟩
  replace RA := Lib.hid (RA.out.below hbl)
  replace T := Lib.hid (T.out.below hbl)
  replace Rp := Lib.hid (Rp.out.below hbl)
  replace HNp := Lib.hid (HNp.out.below hbl)
  replace HW := Lib.hid (bel_trans HW.out hbl); clear hbl
  have HNo := Lib.hid hno; clear hno
  obtain ⟨Ao, co, rfl, hco, hro⟩ := HNo.out.row
  have Ro := Lib.hid hro; clear hro hco
  have LO := Lib.hid (small_top HN.out)
  go_wp2_with fail
  refine (rightR LO.out Ao co _ Ro.out).mono ?_
  rintro e w4 ⟨rfl, hbl⟩
  replace RA := Lib.hid (RA.out.below hbl)
  replace T := Lib.hid (T.out.below hbl)
  replace Rp := Lib.hid (Rp.out.below hbl)
  replace HNp := Lib.hid (HNp.out.below hbl)
  replace Ro := Lib.hid (Ro.out.below hbl)
  replace HNo := Lib.hid (HNo.out.below hbl)
  replace HW := Lib.hid (bel_trans HW.out hbl); clear hbl
  go_wp2_with fail
  refine (text_lim Ao co n _ Ro.out LO.out).mono ?_
  rintro e w5 ⟨rfl, hbl⟩
  replace RA := Lib.hid (RA.out.below hbl)
  replace T := Lib.hid (T.out.below hbl)
  replace Rp := Lib.hid (Rp.out.below hbl)
  replace HNp := Lib.hid (HNp.out.below hbl)
  replace Ro := Lib.hid (Ro.out.below hbl)
  replace HNo := Lib.hid (HNo.out.below hbl)
  replace HW := Lib.hid (bel_trans HW.out hbl); clear hbl
  go_wp2_with fail
  refine (small_one h _ HHL.out.1).mono ?_
  rintro e w6 ⟨rfl, hbl⟩
  replace RA := Lib.hid (RA.out.below hbl)
  replace T := Lib.hid (T.out.below hbl)
  replace Rp := Lib.hid (Rp.out.below hbl)
  replace HNp := Lib.hid (HNp.out.below hbl)
  replace Ro := Lib.hid (Ro.out.below hbl)
  replace HNo := Lib.hid (HNo.out.below hbl)
  replace HW := Lib.hid (bel_trans HW.out hbl); clear hbl
  have LH := Lib.hid (small_top (n := h) (by have := HHL.out.1; omega))
  go_wp2_with fail
  refine (refNat_any h _ LH.out).mono ?_
  rintro e w7 ⟨vh, rfl, hnh, hbl⟩
  replace RA := Lib.hid (RA.out.below hbl)
  replace T := Lib.hid (T.out.below hbl)
  replace Rp := Lib.hid (Rp.out.below hbl)
  replace HNp := Lib.hid (HNp.out.below hbl)
  replace Ro := Lib.hid (Ro.out.below hbl)
  replace HNo := Lib.hid (HNo.out.below hbl)
  replace HW := Lib.hid (bel_trans HW.out hbl); clear hbl
  have HNh := Lib.hid hnh; clear hnh
  obtain ⟨Ah, ch, rfl, hch, hrh⟩ := HNh.out.row
  have Rh := Lib.hid hrh; clear hrh hch
  go_wp2_with fail
  refine (text_lim Ah ch h _ Rh.out LH.out).mono ?_
  rintro e w8 ⟨rfl, hbl⟩
  replace RA := Lib.hid (RA.out.below hbl)
  replace T := Lib.hid (T.out.below hbl)
  replace Rp := Lib.hid (Rp.out.below hbl)
  replace HNp := Lib.hid (HNp.out.below hbl)
  replace Ro := Lib.hid (Ro.out.below hbl)
  replace HNo := Lib.hid (HNo.out.below hbl)
  replace Rh := Lib.hid (Rh.out.below hbl)
  replace HNh := Lib.hid (HNh.out.below hbl)
  replace HW := Lib.hid (bel_trans HW.out hbl); clear hbl
  go_wp2_with fail
  refine (small_32 h l n _ HHL.out.1 HHL.out.2.1 HHL.out.2.2).mono ?_
  rintro e w9 ⟨rfl, hbl⟩
  replace RA := Lib.hid (RA.out.below hbl)
  replace T := Lib.hid (T.out.below hbl)
  replace Rp := Lib.hid (Rp.out.below hbl)
  replace HNp := Lib.hid (HNp.out.below hbl)
  replace Ro := Lib.hid (Ro.out.below hbl)
  replace HNo := Lib.hid (HNo.out.below hbl)
  replace Rh := Lib.hid (Rh.out.below hbl)
  replace HNh := Lib.hid (HNh.out.below hbl)
  replace HW := Lib.hid (bel_trans HW.out hbl); clear hbl
  go_wp2_with fail
  refine (alive_any _ T.out).mono ?_
  rintro e w10 ⟨rfl, hbl⟩
  replace RA := Lib.hid (RA.out.below hbl)
  replace T := Lib.hid (T.out.below hbl)
  replace Rp := Lib.hid (Rp.out.below hbl)
  replace HNp := Lib.hid (HNp.out.below hbl)
  replace Ro := Lib.hid (Ro.out.below hbl)
  replace HNo := Lib.hid (HNo.out.below hbl)
  replace Rh := Lib.hid (Rh.out.below hbl)
  replace HNh := Lib.hid (HNh.out.below hbl)
  replace HW := Lib.hid (bel_trans HW.out hbl); clear hbl
  go_wp2_with fail
  refine (refRight_bb A cap xs _ RA.out l1).mono ?_
  rintro e w11 ⟨rfl, hbl⟩
  replace RA := Lib.hid (RA.out.below hbl)
  replace T := Lib.hid (T.out.below hbl)
  replace Rp := Lib.hid (Rp.out.below hbl)
  replace HNp := Lib.hid (HNp.out.below hbl)
  replace Ro := Lib.hid (Ro.out.below hbl)
  replace HNo := Lib.hid (HNo.out.below hbl)
  replace Rh := Lib.hid (Rh.out.below hbl)
  replace HNh := Lib.hid (HNh.out.below hbl)
  replace HW := Lib.hid (bel_trans HW.out hbl); clear hbl
  rw [HR.out]
  go_wp2_with fail
  refine (refRight_bb A cap xs _ RA.out l1).mono ?_
  rintro e w12 ⟨rfl, hbl⟩
  replace RA := Lib.hid (RA.out.below hbl)
  replace T := Lib.hid (T.out.below hbl)
  replace Rp := Lib.hid (Rp.out.below hbl)
  replace HNp := Lib.hid (HNp.out.below hbl)
  replace Ro := Lib.hid (Ro.out.below hbl)
  replace HNo := Lib.hid (HNo.out.below hbl)
  replace Rh := Lib.hid (Rh.out.below hbl)
  replace HNh := Lib.hid (HNh.out.below hbl)
  replace HW := Lib.hid (bel_trans HW.out hbl); clear hbl
  rw [HR.out]
  rcases hbase.out with b1 | ⟨b1, b2⟩ | ⟨b1, b2, b3⟩ | ⟨b1, b2, b3, b4⟩
  · go_wp2_with fail
    refine (syn_is s b true _ HZ.out HO.out).mono ?_
    rintro e w13 ⟨rfl, hbl⟩
    replace RA := Lib.hid (RA.out.below hbl)
    replace T := Lib.hid (T.out.below hbl)
    replace Rp := Lib.hid (Rp.out.below hbl)
    replace HNp := Lib.hid (HNp.out.below hbl)
    replace Ro := Lib.hid (Ro.out.below hbl)
    replace HNo := Lib.hid (HNo.out.below hbl)
    replace Rh := Lib.hid (Rh.out.below hbl)
    replace HNh := Lib.hid (HNh.out.below hbl)
    replace HW := Lib.hid (bel_trans HW.out hbl); clear hbl
    go_wp2_with fail
    refine (refParse_any s b _ HZ.out HBL.out.2 (syn_parts HO.out).2).mono ?_
    rintro e w14 ⟨rfl, hbl⟩
    replace RA := Lib.hid (RA.out.below hbl)
    replace T := Lib.hid (T.out.below hbl)
    replace Rp := Lib.hid (Rp.out.below hbl)
    replace HNp := Lib.hid (HNp.out.below hbl)
    replace Ro := Lib.hid (Ro.out.below hbl)
    replace HNo := Lib.hid (HNo.out.below hbl)
    replace Rh := Lib.hid (Rh.out.below hbl)
    replace HNh := Lib.hid (HNh.out.below hbl)
    replace HW := Lib.hid (bel_trans HW.out hbl); clear hbl
    go_wp2_with fail
    refine (is_any _ (numOf b (codes s)) _ _ HNp.out rfl).mono ?_
    rintro e w15 ⟨rfl, hbl⟩
    replace RA := Lib.hid (RA.out.below hbl)
    replace T := Lib.hid (T.out.below hbl)
    replace Rp := Lib.hid (Rp.out.below hbl)
    replace HNp := Lib.hid (HNp.out.below hbl)
    replace Ro := Lib.hid (Ro.out.below hbl)
    replace HNo := Lib.hid (HNo.out.below hbl)
    replace Rh := Lib.hid (Rh.out.below hbl)
    replace HNh := Lib.hid (HNh.out.below hbl)
    replace HW := Lib.hid (bel_trans HW.out hbl); clear hbl
    go_wp2
    go_ret
    exact ⟨rfl, HW.out⟩
  · go_wp2_with fail
    refine (syn_is s b true _ HZ.out HO.out).mono ?_
    rintro e w13 ⟨rfl, hbl⟩
    replace RA := Lib.hid (RA.out.below hbl)
    replace T := Lib.hid (T.out.below hbl)
    replace Rp := Lib.hid (Rp.out.below hbl)
    replace HNp := Lib.hid (HNp.out.below hbl)
    replace Ro := Lib.hid (Ro.out.below hbl)
    replace HNo := Lib.hid (HNo.out.below hbl)
    replace Rh := Lib.hid (Rh.out.below hbl)
    replace HNh := Lib.hid (HNh.out.below hbl)
    replace HW := Lib.hid (bel_trans HW.out hbl); clear hbl
    go_wp2_with fail
    refine (refParse_any s b _ HZ.out HBL.out.2 (syn_parts HO.out).2).mono ?_
    rintro e w14 ⟨rfl, hbl⟩
    replace RA := Lib.hid (RA.out.below hbl)
    replace T := Lib.hid (T.out.below hbl)
    replace Rp := Lib.hid (Rp.out.below hbl)
    replace HNp := Lib.hid (HNp.out.below hbl)
    replace Ro := Lib.hid (Ro.out.below hbl)
    replace HNo := Lib.hid (HNo.out.below hbl)
    replace Rh := Lib.hid (Rh.out.below hbl)
    replace HNh := Lib.hid (HNh.out.below hbl)
    replace HW := Lib.hid (bel_trans HW.out hbl); clear hbl
    go_wp2_with fail
    refine (is_any _ (numOf b (codes s)) _ _ HNp.out rfl).mono ?_
    rintro e w15 ⟨rfl, hbl⟩
    replace RA := Lib.hid (RA.out.below hbl)
    replace T := Lib.hid (T.out.below hbl)
    replace Rp := Lib.hid (Rp.out.below hbl)
    replace HNp := Lib.hid (HNp.out.below hbl)
    replace Ro := Lib.hid (Ro.out.below hbl)
    replace HNo := Lib.hid (HNo.out.below hbl)
    replace Rh := Lib.hid (Rh.out.below hbl)
    replace HNh := Lib.hid (HNh.out.below hbl)
    replace HW := Lib.hid (bel_trans HW.out hbl); clear hbl
    go_wp2
    go_ret
    exact ⟨rfl, HW.out⟩
  · go_wp2_with fail
    refine (syn_is s b true _ HZ.out HO.out).mono ?_
    rintro e w13 ⟨rfl, hbl⟩
    replace RA := Lib.hid (RA.out.below hbl)
    replace T := Lib.hid (T.out.below hbl)
    replace Rp := Lib.hid (Rp.out.below hbl)
    replace HNp := Lib.hid (HNp.out.below hbl)
    replace Ro := Lib.hid (Ro.out.below hbl)
    replace HNo := Lib.hid (HNo.out.below hbl)
    replace Rh := Lib.hid (Rh.out.below hbl)
    replace HNh := Lib.hid (HNh.out.below hbl)
    replace HW := Lib.hid (bel_trans HW.out hbl); clear hbl
    go_wp2_with fail
    refine (refParse_any s b _ HZ.out HBL.out.2 (syn_parts HO.out).2).mono ?_
    rintro e w14 ⟨rfl, hbl⟩
    replace RA := Lib.hid (RA.out.below hbl)
    replace T := Lib.hid (T.out.below hbl)
    replace Rp := Lib.hid (Rp.out.below hbl)
    replace HNp := Lib.hid (HNp.out.below hbl)
    replace Ro := Lib.hid (Ro.out.below hbl)
    replace HNo := Lib.hid (HNo.out.below hbl)
    replace Rh := Lib.hid (Rh.out.below hbl)
    replace HNh := Lib.hid (HNh.out.below hbl)
    replace HW := Lib.hid (bel_trans HW.out hbl); clear hbl
    go_wp2_with fail
    refine (is_any _ (numOf b (codes s)) _ _ HNp.out rfl).mono ?_
    rintro e w15 ⟨rfl, hbl⟩
    replace RA := Lib.hid (RA.out.below hbl)
    replace T := Lib.hid (T.out.below hbl)
    replace Rp := Lib.hid (Rp.out.below hbl)
    replace HNp := Lib.hid (HNp.out.below hbl)
    replace Ro := Lib.hid (Ro.out.below hbl)
    replace HNo := Lib.hid (HNo.out.below hbl)
    replace Rh := Lib.hid (Rh.out.below hbl)
    replace HNh := Lib.hid (HNh.out.below hbl)
    replace HW := Lib.hid (bel_trans HW.out hbl); clear hbl
    go_wp2
    go_ret
    exact ⟨rfl, HW.out⟩
  · go_wp2_with fail
    refine (syn_is s b true _ HZ.out HO.out).mono ?_
    rintro e w13 ⟨rfl, hbl⟩
    replace RA := Lib.hid (RA.out.below hbl)
    replace T := Lib.hid (T.out.below hbl)
    replace Rp := Lib.hid (Rp.out.below hbl)
    replace HNp := Lib.hid (HNp.out.below hbl)
    replace Ro := Lib.hid (Ro.out.below hbl)
    replace HNo := Lib.hid (HNo.out.below hbl)
    replace Rh := Lib.hid (Rh.out.below hbl)
    replace HNh := Lib.hid (HNh.out.below hbl)
    replace HW := Lib.hid (bel_trans HW.out hbl); clear hbl
    go_wp2_with fail
    refine (refParse_any s b _ HZ.out HBL.out.2 (syn_parts HO.out).2).mono ?_
    rintro e w14 ⟨rfl, hbl⟩
    replace RA := Lib.hid (RA.out.below hbl)
    replace T := Lib.hid (T.out.below hbl)
    replace Rp := Lib.hid (Rp.out.below hbl)
    replace HNp := Lib.hid (HNp.out.below hbl)
    replace Ro := Lib.hid (Ro.out.below hbl)
    replace HNo := Lib.hid (HNo.out.below hbl)
    replace Rh := Lib.hid (Rh.out.below hbl)
    replace HNh := Lib.hid (HNh.out.below hbl)
    replace HW := Lib.hid (bel_trans HW.out hbl); clear hbl
    go_wp2_with fail
    refine (is_any _ (numOf b (codes s)) _ _ HNp.out rfl).mono ?_
    rintro e w15 ⟨rfl, hbl⟩
    replace RA := Lib.hid (RA.out.below hbl)
    replace T := Lib.hid (T.out.below hbl)
    replace Rp := Lib.hid (Rp.out.below hbl)
    replace HNp := Lib.hid (HNp.out.below hbl)
    replace Ro := Lib.hid (Ro.out.below hbl)
    replace HNo := Lib.hid (HNo.out.below hbl)
    replace Rh := Lib.hid (Rh.out.below hbl)
    replace HNh := Lib.hid (HNh.out.below hbl)
    replace HW := Lib.hid (bel_trans HW.out hbl); clear hbl
    go_wp2
    go_ret
    exact ⟨rfl, HW.out⟩

set_option maxRecDepth 100000 in
set_option maxHeartbeats 1000000 in
theorem texts_ok_arg (A : Option Addr) (cap : Nat) (x0 : List Nat) (n : Nat) (s0 s : ByteArray) (m : Nat) (a : Nat) (i : Int) (w : World) (h : RdL w A x0) (hc : x0.length ≤ cap) (ht : Bases w) (hn : n < 18446744073709551616) (hm : m = min s0.size 200) (hs : s0.extract 0 m = s) (hsz : s.size ≤ 1000) (ha : few x0 = limbs a) (ha2 : a < Top) (hb : isBase i = false) :
    Calls Tryd.prog 3 #[.slice A x0.length cap, .int .u64 n, .string s0, .int .i64 i] w (RetT w) := by
  have RA := Lib.hid (show RdL w A (few x0) from h.take 18); clear h
  have T := Lib.hid ht; clear ht
  rw [ha] at RA
  have F1 := Lib.hid (And.intro hc ha); clear hc ha
  have LA := Lib.hid ha2; clear ha2
  have hmin := min_int 200 s0.size 200 rfl
  rw [← hm] at hmin
  have hm' : (m : Int) ≤ (s0.size : Int) := by omega
  have HS := Lib.hid hs; clear hs
  have HZ := Lib.hid hsz; clear hsz
  clear hm
  obtain ⟨h, l, e1, e2, e3, e4, e5, e6, e7⟩ := halves n hn
  have HHL := Lib.hid (And.intro e5 (And.intro e6 e7)); clear e5 e6 e7
  have HN := Lib.hid hn; clear hn
  have HB := Lib.hid hb
  obtain ⟨b1, b2, b3, b4⟩ := base_not hb; clear hb
  have HW := Lib.hid (bel_refl w)
  go_enter Tryd.func3, Tryd.ntmps3
  go_wp2
  go_quiet (first | (go_at_call 8; exact Calls.quiet_of_same (few_same A cap x0 (limbs a) _ F1.out.1 F1.out.2)))
  go_wp2_with fail
  rw [HS.out]
  have hbl := bel_drewN (bel_refl w) nq
  generalize hwd : w.drewN nq = w0 at hbl ⊢
  replace RA := Lib.hid (RA.out.below hbl)
  replace T := Lib.hid (T.out.below hbl)
  replace HW := Lib.hid (bel_trans HW.out hbl); clear hbl hwd hmin hm'
  go_wp2_with fail
  refine (text_ok A cap a _ RA.out LA.out).mono ?_
  rintro e w1 ⟨rfl, hbl⟩
  replace RA := Lib.hid (RA.out.below hbl)
  replace T := Lib.hid (T.out.below hbl)
  replace HW := Lib.hid (bel_trans HW.out hbl); clear hbl
  go_wp2_with fail
  refine (parse_arg s i _ HB.out T.out).mono ?_
  rintro e w2 ⟨vp, rfl, hnp, hbl⟩
  replace RA := Lib.hid (RA.out.below hbl)
  replace T := Lib.hid (T.out.below hbl)
  replace HW := Lib.hid (bel_trans HW.out hbl); clear hbl
  have HNp := Lib.hid hnp; clear hnp
  obtain ⟨Ap, cp, rfl, hcp, hrp⟩ := HNp.out.row
  have Rp := Lib.hid hrp; clear hrp hcp
  rw [limbs0]
  go_wp2_with fail
  refine (of_any n _ HN.out).mono ?_
  rintro e w3 ⟨vo, rfl, hno, hbl⟩
  replace RA := Lib.hid (RA.out.below hbl)
  replace T := Lib.hid (T.out.below hbl)
  replace Rp := Lib.hid (Rp.out.below hbl)
  replace HNp := Lib.hid (HNp.out.below hbl)
  replace HW := Lib.hid (bel_trans HW.out hbl); clear hbl
  have HNo := Lib.hid hno; clear hno
  obtain ⟨Ao, co, rfl, hco, hro⟩ := HNo.out.row
  have Ro := Lib.hid hro; clear hro hco
  have LO := Lib.hid (small_top HN.out)
  go_wp2_with fail
  refine (rightR LO.out Ao co _ Ro.out).mono ?_
  rintro e w4 ⟨rfl, hbl⟩
  replace RA := Lib.hid (RA.out.below hbl)
  replace T := Lib.hid (T.out.below hbl)
  replace Rp := Lib.hid (Rp.out.below hbl)
  replace HNp := Lib.hid (HNp.out.below hbl)
  replace Ro := Lib.hid (Ro.out.below hbl)
  replace HNo := Lib.hid (HNo.out.below hbl)
  replace HW := Lib.hid (bel_trans HW.out hbl); clear hbl
  go_wp2_with fail
  refine (text_lim Ao co n _ Ro.out LO.out).mono ?_
  rintro e w5 ⟨rfl, hbl⟩
  replace RA := Lib.hid (RA.out.below hbl)
  replace T := Lib.hid (T.out.below hbl)
  replace Rp := Lib.hid (Rp.out.below hbl)
  replace HNp := Lib.hid (HNp.out.below hbl)
  replace Ro := Lib.hid (Ro.out.below hbl)
  replace HNo := Lib.hid (HNo.out.below hbl)
  replace HW := Lib.hid (bel_trans HW.out hbl); clear hbl
  go_wp2_with fail
  refine (small_one h _ HHL.out.1).mono ?_
  rintro e w6 ⟨rfl, hbl⟩
  replace RA := Lib.hid (RA.out.below hbl)
  replace T := Lib.hid (T.out.below hbl)
  replace Rp := Lib.hid (Rp.out.below hbl)
  replace HNp := Lib.hid (HNp.out.below hbl)
  replace Ro := Lib.hid (Ro.out.below hbl)
  replace HNo := Lib.hid (HNo.out.below hbl)
  replace HW := Lib.hid (bel_trans HW.out hbl); clear hbl
  have LH := Lib.hid (small_top (n := h) (by have := HHL.out.1; omega))
  go_wp2_with fail
  refine (refNat_any h _ LH.out).mono ?_
  rintro e w7 ⟨vh, rfl, hnh, hbl⟩
  replace RA := Lib.hid (RA.out.below hbl)
  replace T := Lib.hid (T.out.below hbl)
  replace Rp := Lib.hid (Rp.out.below hbl)
  replace HNp := Lib.hid (HNp.out.below hbl)
  replace Ro := Lib.hid (Ro.out.below hbl)
  replace HNo := Lib.hid (HNo.out.below hbl)
  replace HW := Lib.hid (bel_trans HW.out hbl); clear hbl
  have HNh := Lib.hid hnh; clear hnh
  obtain ⟨Ah, ch, rfl, hch, hrh⟩ := HNh.out.row
  have Rh := Lib.hid hrh; clear hrh hch
  go_wp2_with fail
  refine (text_lim Ah ch h _ Rh.out LH.out).mono ?_
  rintro e w8 ⟨rfl, hbl⟩
  replace RA := Lib.hid (RA.out.below hbl)
  replace T := Lib.hid (T.out.below hbl)
  replace Rp := Lib.hid (Rp.out.below hbl)
  replace HNp := Lib.hid (HNp.out.below hbl)
  replace Ro := Lib.hid (Ro.out.below hbl)
  replace HNo := Lib.hid (HNo.out.below hbl)
  replace Rh := Lib.hid (Rh.out.below hbl)
  replace HNh := Lib.hid (HNh.out.below hbl)
  replace HW := Lib.hid (bel_trans HW.out hbl); clear hbl
  go_wp2_with fail
  refine (small_32 h l n _ HHL.out.1 HHL.out.2.1 HHL.out.2.2).mono ?_
  rintro e w9 ⟨rfl, hbl⟩
  replace RA := Lib.hid (RA.out.below hbl)
  replace T := Lib.hid (T.out.below hbl)
  replace Rp := Lib.hid (Rp.out.below hbl)
  replace HNp := Lib.hid (HNp.out.below hbl)
  replace Ro := Lib.hid (Ro.out.below hbl)
  replace HNo := Lib.hid (HNo.out.below hbl)
  replace Rh := Lib.hid (Rh.out.below hbl)
  replace HNh := Lib.hid (HNh.out.below hbl)
  replace HW := Lib.hid (bel_trans HW.out hbl); clear hbl
  go_wp2_with fail
  refine (alive_any _ T.out).mono ?_
  rintro e w10 ⟨rfl, hbl⟩
  replace RA := Lib.hid (RA.out.below hbl)
  replace T := Lib.hid (T.out.below hbl)
  replace Rp := Lib.hid (Rp.out.below hbl)
  replace HNp := Lib.hid (HNp.out.below hbl)
  replace Ro := Lib.hid (Ro.out.below hbl)
  replace HNo := Lib.hid (HNo.out.below hbl)
  replace Rh := Lib.hid (Rh.out.below hbl)
  replace HNh := Lib.hid (HNh.out.below hbl)
  replace HW := Lib.hid (bel_trans HW.out hbl); clear hbl
  go_wp2_with fail
  refine (refRightR LA.out A cap _ RA.out).mono ?_
  rintro e w11 ⟨rfl, hbl⟩
  replace RA := Lib.hid (RA.out.below hbl)
  replace T := Lib.hid (T.out.below hbl)
  replace Rp := Lib.hid (Rp.out.below hbl)
  replace HNp := Lib.hid (HNp.out.below hbl)
  replace Ro := Lib.hid (Ro.out.below hbl)
  replace HNo := Lib.hid (HNo.out.below hbl)
  replace Rh := Lib.hid (Rh.out.below hbl)
  replace HNh := Lib.hid (HNh.out.below hbl)
  replace HW := Lib.hid (bel_trans HW.out hbl); clear hbl
  go_wp2_with fail
  refine (refRightR LA.out A cap _ RA.out).mono ?_
  rintro e w12 ⟨rfl, hbl⟩
  replace RA := Lib.hid (RA.out.below hbl)
  replace T := Lib.hid (T.out.below hbl)
  replace Rp := Lib.hid (Rp.out.below hbl)
  replace HNp := Lib.hid (HNp.out.below hbl)
  replace Ro := Lib.hid (Ro.out.below hbl)
  replace HNo := Lib.hid (HNo.out.below hbl)
  replace Rh := Lib.hid (Rh.out.below hbl)
  replace HNh := Lib.hid (HNh.out.below hbl)
  replace HW := Lib.hid (bel_trans HW.out hbl); clear hbl
  go_wp2_with fail
  refine (text_num A cap a _ RA.out LA.out).mono ?_
  rintro e w13 ⟨rfl, hbl⟩
  replace RA := Lib.hid (RA.out.below hbl)
  replace T := Lib.hid (T.out.below hbl)
  replace Rp := Lib.hid (Rp.out.below hbl)
  replace HNp := Lib.hid (HNp.out.below hbl)
  replace Ro := Lib.hid (Ro.out.below hbl)
  replace HNo := Lib.hid (HNo.out.below hbl)
  replace Rh := Lib.hid (Rh.out.below hbl)
  replace HNh := Lib.hid (HNh.out.below hbl)
  replace HW := Lib.hid (bel_trans HW.out hbl); clear hbl
  go_wp2
  go_ret
  exact ⟨rfl, HW.out⟩

set_option maxRecDepth 100000 in
set_option maxHeartbeats 1000000 in
theorem texts_ok_syn (A : Option Addr) (cap : Nat) (x0 : List Nat) (n : Nat) (s0 s : ByteArray) (m : Nat) (a : Nat) (b : Nat) (w : World) (h : RdL w A x0) (hc : x0.length ≤ cap) (ht : Bases w) (hn : n < 18446744073709551616) (hm : m = min s0.size 200) (hs : s0.extract 0 m = s) (hsz : s.size ≤ 1000) (ha : few x0 = limbs a) (ha2 : a < Top) (hb : isBase b = true) (ho : (!oddIn b (codes s) && decide (0 < s.size)) = false) :
    Calls Tryd.prog 3 #[.slice A x0.length cap, .int .u64 n, .string s0, .int .i64 b] w (RetT w) := by
  have RA := Lib.hid (show RdL w A (few x0) from h.take 18); clear h
  have T := Lib.hid ht; clear ht
  rw [ha] at RA
  have F1 := Lib.hid (And.intro hc ha); clear hc ha
  have LA := Lib.hid ha2; clear ha2
  have hmin := min_int 200 s0.size 200 rfl
  rw [← hm] at hmin
  have hm' : (m : Int) ≤ (s0.size : Int) := by omega
  have HS := Lib.hid hs; clear hs
  have HZ := Lib.hid hsz; clear hsz
  clear hm
  obtain ⟨h, l, e1, e2, e3, e4, e5, e6, e7⟩ := halves n hn
  have HHL := Lib.hid (And.intro e5 (And.intro e6 e7)); clear e5 e6 e7
  have HN := Lib.hid hn; clear hn
  have HB := Lib.hid hb
  have hbase := Lib.hid (base_is hb)
  have HBL := Lib.hid (base_le hb); clear hb
  have HO := Lib.hid ho; clear ho
  have HW := Lib.hid (bel_refl w)
  go_enter Tryd.func3, Tryd.ntmps3
  go_wp2
  go_quiet (first | (go_at_call 8; exact Calls.quiet_of_same (few_same A cap x0 (limbs a) _ F1.out.1 F1.out.2)))
  go_wp2_with fail
  rw [HS.out]
  have hbl := bel_drewN (bel_refl w) nq
  generalize hwd : w.drewN nq = w0 at hbl ⊢
  replace RA := Lib.hid (RA.out.below hbl)
  replace T := Lib.hid (T.out.below hbl)
  replace HW := Lib.hid (bel_trans HW.out hbl); clear hbl hwd hmin hm'
  go_wp2_with fail
  refine (text_ok A cap a _ RA.out LA.out).mono ?_
  rintro e w1 ⟨rfl, hbl⟩
  replace RA := Lib.hid (RA.out.below hbl)
  replace T := Lib.hid (T.out.below hbl)
  replace HW := Lib.hid (bel_trans HW.out hbl); clear hbl
  go_wp2_with fail
  refine (parse_syn s b _ HB.out T.out HZ.out HO.out).mono ?_
  rintro e w2 ⟨vp, rfl, hnp, hbl⟩
  replace RA := Lib.hid (RA.out.below hbl)
  replace T := Lib.hid (T.out.below hbl)
  replace HW := Lib.hid (bel_trans HW.out hbl); clear hbl
  have HNp := Lib.hid hnp; clear hnp
  obtain ⟨Ap, cp, rfl, hcp, hrp⟩ := HNp.out.row
  have Rp := Lib.hid hrp; clear hrp hcp
  rw [limbs0]
  go_wp2_with fail
  refine (of_any n _ HN.out).mono ?_
  rintro e w3 ⟨vo, rfl, hno, hbl⟩
  replace RA := Lib.hid (RA.out.below hbl)
  replace T := Lib.hid (T.out.below hbl)
  replace Rp := Lib.hid (Rp.out.below hbl)
  replace HNp := Lib.hid (HNp.out.below hbl)
  replace HW := Lib.hid (bel_trans HW.out hbl); clear hbl
  have HNo := Lib.hid hno; clear hno
  obtain ⟨Ao, co, rfl, hco, hro⟩ := HNo.out.row
  have Ro := Lib.hid hro; clear hro hco
  have LO := Lib.hid (small_top HN.out)
  go_wp2_with fail
  refine (rightR LO.out Ao co _ Ro.out).mono ?_
  rintro e w4 ⟨rfl, hbl⟩
  replace RA := Lib.hid (RA.out.below hbl)
  replace T := Lib.hid (T.out.below hbl)
  replace Rp := Lib.hid (Rp.out.below hbl)
  replace HNp := Lib.hid (HNp.out.below hbl)
  replace Ro := Lib.hid (Ro.out.below hbl)
  replace HNo := Lib.hid (HNo.out.below hbl)
  replace HW := Lib.hid (bel_trans HW.out hbl); clear hbl
  go_wp2_with fail
  refine (text_lim Ao co n _ Ro.out LO.out).mono ?_
  rintro e w5 ⟨rfl, hbl⟩
  replace RA := Lib.hid (RA.out.below hbl)
  replace T := Lib.hid (T.out.below hbl)
  replace Rp := Lib.hid (Rp.out.below hbl)
  replace HNp := Lib.hid (HNp.out.below hbl)
  replace Ro := Lib.hid (Ro.out.below hbl)
  replace HNo := Lib.hid (HNo.out.below hbl)
  replace HW := Lib.hid (bel_trans HW.out hbl); clear hbl
  go_wp2_with fail
  refine (small_one h _ HHL.out.1).mono ?_
  rintro e w6 ⟨rfl, hbl⟩
  replace RA := Lib.hid (RA.out.below hbl)
  replace T := Lib.hid (T.out.below hbl)
  replace Rp := Lib.hid (Rp.out.below hbl)
  replace HNp := Lib.hid (HNp.out.below hbl)
  replace Ro := Lib.hid (Ro.out.below hbl)
  replace HNo := Lib.hid (HNo.out.below hbl)
  replace HW := Lib.hid (bel_trans HW.out hbl); clear hbl
  have LH := Lib.hid (small_top (n := h) (by have := HHL.out.1; omega))
  go_wp2_with fail
  refine (refNat_any h _ LH.out).mono ?_
  rintro e w7 ⟨vh, rfl, hnh, hbl⟩
  replace RA := Lib.hid (RA.out.below hbl)
  replace T := Lib.hid (T.out.below hbl)
  replace Rp := Lib.hid (Rp.out.below hbl)
  replace HNp := Lib.hid (HNp.out.below hbl)
  replace Ro := Lib.hid (Ro.out.below hbl)
  replace HNo := Lib.hid (HNo.out.below hbl)
  replace HW := Lib.hid (bel_trans HW.out hbl); clear hbl
  have HNh := Lib.hid hnh; clear hnh
  obtain ⟨Ah, ch, rfl, hch, hrh⟩ := HNh.out.row
  have Rh := Lib.hid hrh; clear hrh hch
  go_wp2_with fail
  refine (text_lim Ah ch h _ Rh.out LH.out).mono ?_
  rintro e w8 ⟨rfl, hbl⟩
  replace RA := Lib.hid (RA.out.below hbl)
  replace T := Lib.hid (T.out.below hbl)
  replace Rp := Lib.hid (Rp.out.below hbl)
  replace HNp := Lib.hid (HNp.out.below hbl)
  replace Ro := Lib.hid (Ro.out.below hbl)
  replace HNo := Lib.hid (HNo.out.below hbl)
  replace Rh := Lib.hid (Rh.out.below hbl)
  replace HNh := Lib.hid (HNh.out.below hbl)
  replace HW := Lib.hid (bel_trans HW.out hbl); clear hbl
  go_wp2_with fail
  refine (small_32 h l n _ HHL.out.1 HHL.out.2.1 HHL.out.2.2).mono ?_
  rintro e w9 ⟨rfl, hbl⟩
  replace RA := Lib.hid (RA.out.below hbl)
  replace T := Lib.hid (T.out.below hbl)
  replace Rp := Lib.hid (Rp.out.below hbl)
  replace HNp := Lib.hid (HNp.out.below hbl)
  replace Ro := Lib.hid (Ro.out.below hbl)
  replace HNo := Lib.hid (HNo.out.below hbl)
  replace Rh := Lib.hid (Rh.out.below hbl)
  replace HNh := Lib.hid (HNh.out.below hbl)
  replace HW := Lib.hid (bel_trans HW.out hbl); clear hbl
  go_wp2_with fail
  refine (alive_any _ T.out).mono ?_
  rintro e w10 ⟨rfl, hbl⟩
  replace RA := Lib.hid (RA.out.below hbl)
  replace T := Lib.hid (T.out.below hbl)
  replace Rp := Lib.hid (Rp.out.below hbl)
  replace HNp := Lib.hid (HNp.out.below hbl)
  replace Ro := Lib.hid (Ro.out.below hbl)
  replace HNo := Lib.hid (HNo.out.below hbl)
  replace Rh := Lib.hid (Rh.out.below hbl)
  replace HNh := Lib.hid (HNh.out.below hbl)
  replace HW := Lib.hid (bel_trans HW.out hbl); clear hbl
  go_wp2_with fail
  refine (refRightR LA.out A cap _ RA.out).mono ?_
  rintro e w11 ⟨rfl, hbl⟩
  replace RA := Lib.hid (RA.out.below hbl)
  replace T := Lib.hid (T.out.below hbl)
  replace Rp := Lib.hid (Rp.out.below hbl)
  replace HNp := Lib.hid (HNp.out.below hbl)
  replace Ro := Lib.hid (Ro.out.below hbl)
  replace HNo := Lib.hid (HNo.out.below hbl)
  replace Rh := Lib.hid (Rh.out.below hbl)
  replace HNh := Lib.hid (HNh.out.below hbl)
  replace HW := Lib.hid (bel_trans HW.out hbl); clear hbl
  go_wp2_with fail
  refine (refRightR LA.out A cap _ RA.out).mono ?_
  rintro e w12 ⟨rfl, hbl⟩
  replace RA := Lib.hid (RA.out.below hbl)
  replace T := Lib.hid (T.out.below hbl)
  replace Rp := Lib.hid (Rp.out.below hbl)
  replace HNp := Lib.hid (HNp.out.below hbl)
  replace Ro := Lib.hid (Ro.out.below hbl)
  replace HNo := Lib.hid (HNo.out.below hbl)
  replace Rh := Lib.hid (Rh.out.below hbl)
  replace HNh := Lib.hid (HNh.out.below hbl)
  replace HW := Lib.hid (bel_trans HW.out hbl); clear hbl
  go_wp2_with fail
  refine (text_num A cap a _ RA.out LA.out).mono ?_
  rintro e w13 ⟨rfl, hbl⟩
  replace RA := Lib.hid (RA.out.below hbl)
  replace T := Lib.hid (T.out.below hbl)
  replace Rp := Lib.hid (Rp.out.below hbl)
  replace HNp := Lib.hid (HNp.out.below hbl)
  replace Ro := Lib.hid (Ro.out.below hbl)
  replace HNo := Lib.hid (HNo.out.below hbl)
  replace Rh := Lib.hid (Rh.out.below hbl)
  replace HNh := Lib.hid (HNh.out.below hbl)
  replace HW := Lib.hid (bel_trans HW.out hbl); clear hbl
  rcases hbase.out with b1 | ⟨b1, b2⟩ | ⟨b1, b2, b3⟩ | ⟨b1, b2, b3, b4⟩
  · go_wp2_with fail
    refine (syn_is s b false _ HZ.out HO.out).mono ?_
    rintro e w14 ⟨rfl, hbl⟩
    replace RA := Lib.hid (RA.out.below hbl)
    replace T := Lib.hid (T.out.below hbl)
    replace Rp := Lib.hid (Rp.out.below hbl)
    replace HNp := Lib.hid (HNp.out.below hbl)
    replace Ro := Lib.hid (Ro.out.below hbl)
    replace HNo := Lib.hid (HNo.out.below hbl)
    replace Rh := Lib.hid (Rh.out.below hbl)
    replace HNh := Lib.hid (HNh.out.below hbl)
    replace HW := Lib.hid (bel_trans HW.out hbl); clear hbl
    go_wp2
    go_ret
    exact ⟨rfl, HW.out⟩
  · go_wp2_with fail
    refine (syn_is s b false _ HZ.out HO.out).mono ?_
    rintro e w14 ⟨rfl, hbl⟩
    replace RA := Lib.hid (RA.out.below hbl)
    replace T := Lib.hid (T.out.below hbl)
    replace Rp := Lib.hid (Rp.out.below hbl)
    replace HNp := Lib.hid (HNp.out.below hbl)
    replace Ro := Lib.hid (Ro.out.below hbl)
    replace HNo := Lib.hid (HNo.out.below hbl)
    replace Rh := Lib.hid (Rh.out.below hbl)
    replace HNh := Lib.hid (HNh.out.below hbl)
    replace HW := Lib.hid (bel_trans HW.out hbl); clear hbl
    go_wp2
    go_ret
    exact ⟨rfl, HW.out⟩
  · go_wp2_with fail
    refine (syn_is s b false _ HZ.out HO.out).mono ?_
    rintro e w14 ⟨rfl, hbl⟩
    replace RA := Lib.hid (RA.out.below hbl)
    replace T := Lib.hid (T.out.below hbl)
    replace Rp := Lib.hid (Rp.out.below hbl)
    replace HNp := Lib.hid (HNp.out.below hbl)
    replace Ro := Lib.hid (Ro.out.below hbl)
    replace HNo := Lib.hid (HNo.out.below hbl)
    replace Rh := Lib.hid (Rh.out.below hbl)
    replace HNh := Lib.hid (HNh.out.below hbl)
    replace HW := Lib.hid (bel_trans HW.out hbl); clear hbl
    go_wp2
    go_ret
    exact ⟨rfl, HW.out⟩
  · go_wp2_with fail
    refine (syn_is s b false _ HZ.out HO.out).mono ?_
    rintro e w14 ⟨rfl, hbl⟩
    replace RA := Lib.hid (RA.out.below hbl)
    replace T := Lib.hid (T.out.below hbl)
    replace Rp := Lib.hid (Rp.out.below hbl)
    replace HNp := Lib.hid (HNp.out.below hbl)
    replace Ro := Lib.hid (Ro.out.below hbl)
    replace HNo := Lib.hid (HNo.out.below hbl)
    replace Rh := Lib.hid (Rh.out.below hbl)
    replace HNh := Lib.hid (HNh.out.below hbl)
    replace HW := Lib.hid (bel_trans HW.out hbl); clear hbl
    go_wp2
    go_ret
    exact ⟨rfl, HW.out⟩

set_option maxRecDepth 100000 in
set_option maxHeartbeats 1000000 in
theorem texts_ok_num (A : Option Addr) (cap : Nat) (x0 : List Nat) (n : Nat) (s0 s : ByteArray) (m : Nat) (a : Nat) (b : Nat) (w : World) (h : RdL w A x0) (hc : x0.length ≤ cap) (ht : Bases w) (hn : n < 18446744073709551616) (hm : m = min s0.size 200) (hs : s0.extract 0 m = s) (hsz : s.size ≤ 1000) (ha : few x0 = limbs a) (ha2 : a < Top) (hb : isBase b = true) (ho : (!oddIn b (codes s) && decide (0 < s.size)) = true) :
    Calls Tryd.prog 3 #[.slice A x0.length cap, .int .u64 n, .string s0, .int .i64 b] w (RetT w) := by
  have RA := Lib.hid (show RdL w A (few x0) from h.take 18); clear h
  have T := Lib.hid ht; clear ht
  rw [ha] at RA
  have F1 := Lib.hid (And.intro hc ha); clear hc ha
  have LA := Lib.hid ha2; clear ha2
  have hmin := min_int 200 s0.size 200 rfl
  rw [← hm] at hmin
  have hm' : (m : Int) ≤ (s0.size : Int) := by omega
  have HS := Lib.hid hs; clear hs
  have HZ := Lib.hid hsz; clear hsz
  clear hm
  obtain ⟨h, l, e1, e2, e3, e4, e5, e6, e7⟩ := halves n hn
  have HHL := Lib.hid (And.intro e5 (And.intro e6 e7)); clear e5 e6 e7
  have HN := Lib.hid hn; clear hn
  have HB := Lib.hid hb
  have hbase := Lib.hid (base_is hb)
  have HBL := Lib.hid (base_le hb); clear hb
  have HO := Lib.hid ho; clear ho
  have HW := Lib.hid (bel_refl w)
  go_enter Tryd.func3, Tryd.ntmps3
  go_wp2
  go_quiet (first | (go_at_call 8; exact Calls.quiet_of_same (few_same A cap x0 (limbs a) _ F1.out.1 F1.out.2)))
  go_wp2_with fail
  rw [HS.out]
  have hbl := bel_drewN (bel_refl w) nq
  generalize hwd : w.drewN nq = w0 at hbl ⊢
  replace RA := Lib.hid (RA.out.below hbl)
  replace T := Lib.hid (T.out.below hbl)
  replace HW := Lib.hid (bel_trans HW.out hbl); clear hbl hwd hmin hm'
  go_wp2_with fail
  refine (text_ok A cap a _ RA.out LA.out).mono ?_
  rintro e w1 ⟨rfl, hbl⟩
  replace RA := Lib.hid (RA.out.below hbl)
  replace T := Lib.hid (T.out.below hbl)
  replace HW := Lib.hid (bel_trans HW.out hbl); clear hbl
  go_wp2_with fail
  refine (parse_ok s b _ HB.out T.out (syn_parts HO.out).1 HZ.out HBL.out.1 HBL.out.2 (syn_parts HO.out).2).mono ?_
  rintro e w2 ⟨vp, rfl, hnp, hbl⟩
  replace RA := Lib.hid (RA.out.below hbl)
  replace T := Lib.hid (T.out.below hbl)
  replace HW := Lib.hid (bel_trans HW.out hbl); clear hbl
  have HNp := Lib.hid hnp; clear hnp
  obtain ⟨Ap, cp, rfl, hcp, hrp⟩ := HNp.out.row
  have Rp := Lib.hid hrp; clear hrp hcp
  go_wp2_with fail
  refine (of_any n _ HN.out).mono ?_
  rintro e w3 ⟨vo, rfl, hno, hbl⟩
  replace RA := Lib.hid (RA.out.below hbl)
  replace T := Lib.hid (T.out.below hbl)
  replace Rp := Lib.hid (Rp.out.below hbl)
  replace HNp := Lib.hid (HNp.out.below hbl)
  replace HW := Lib.hid (bel_trans HW.out hbl); clear hbl
  have HNo := Lib.hid hno; clear hno
  obtain ⟨Ao, co, rfl, hco, hro⟩ := HNo.out.row
  have Ro := Lib.hid hro; clear hro hco
  have LO := Lib.hid (small_top HN.out)
  go_wp2_with fail
  refine (rightR LO.out Ao co _ Ro.out).mono ?_
  rintro e w4 ⟨rfl, hbl⟩
  replace RA := Lib.hid (RA.out.below hbl)
  replace T := Lib.hid (T.out.below hbl)
  replace Rp := Lib.hid (Rp.out.below hbl)
  replace HNp := Lib.hid (HNp.out.below hbl)
  replace Ro := Lib.hid (Ro.out.below hbl)
  replace HNo := Lib.hid (HNo.out.below hbl)
  replace HW := Lib.hid (bel_trans HW.out hbl); clear hbl
  go_wp2_with fail
  refine (text_lim Ao co n _ Ro.out LO.out).mono ?_
  rintro e w5 ⟨rfl, hbl⟩
  replace RA := Lib.hid (RA.out.below hbl)
  replace T := Lib.hid (T.out.below hbl)
  replace Rp := Lib.hid (Rp.out.below hbl)
  replace HNp := Lib.hid (HNp.out.below hbl)
  replace Ro := Lib.hid (Ro.out.below hbl)
  replace HNo := Lib.hid (HNo.out.below hbl)
  replace HW := Lib.hid (bel_trans HW.out hbl); clear hbl
  go_wp2_with fail
  refine (small_one h _ HHL.out.1).mono ?_
  rintro e w6 ⟨rfl, hbl⟩
  replace RA := Lib.hid (RA.out.below hbl)
  replace T := Lib.hid (T.out.below hbl)
  replace Rp := Lib.hid (Rp.out.below hbl)
  replace HNp := Lib.hid (HNp.out.below hbl)
  replace Ro := Lib.hid (Ro.out.below hbl)
  replace HNo := Lib.hid (HNo.out.below hbl)
  replace HW := Lib.hid (bel_trans HW.out hbl); clear hbl
  have LH := Lib.hid (small_top (n := h) (by have := HHL.out.1; omega))
  go_wp2_with fail
  refine (refNat_any h _ LH.out).mono ?_
  rintro e w7 ⟨vh, rfl, hnh, hbl⟩
  replace RA := Lib.hid (RA.out.below hbl)
  replace T := Lib.hid (T.out.below hbl)
  replace Rp := Lib.hid (Rp.out.below hbl)
  replace HNp := Lib.hid (HNp.out.below hbl)
  replace Ro := Lib.hid (Ro.out.below hbl)
  replace HNo := Lib.hid (HNo.out.below hbl)
  replace HW := Lib.hid (bel_trans HW.out hbl); clear hbl
  have HNh := Lib.hid hnh; clear hnh
  obtain ⟨Ah, ch, rfl, hch, hrh⟩ := HNh.out.row
  have Rh := Lib.hid hrh; clear hrh hch
  go_wp2_with fail
  refine (text_lim Ah ch h _ Rh.out LH.out).mono ?_
  rintro e w8 ⟨rfl, hbl⟩
  replace RA := Lib.hid (RA.out.below hbl)
  replace T := Lib.hid (T.out.below hbl)
  replace Rp := Lib.hid (Rp.out.below hbl)
  replace HNp := Lib.hid (HNp.out.below hbl)
  replace Ro := Lib.hid (Ro.out.below hbl)
  replace HNo := Lib.hid (HNo.out.below hbl)
  replace Rh := Lib.hid (Rh.out.below hbl)
  replace HNh := Lib.hid (HNh.out.below hbl)
  replace HW := Lib.hid (bel_trans HW.out hbl); clear hbl
  go_wp2_with fail
  refine (small_32 h l n _ HHL.out.1 HHL.out.2.1 HHL.out.2.2).mono ?_
  rintro e w9 ⟨rfl, hbl⟩
  replace RA := Lib.hid (RA.out.below hbl)
  replace T := Lib.hid (T.out.below hbl)
  replace Rp := Lib.hid (Rp.out.below hbl)
  replace HNp := Lib.hid (HNp.out.below hbl)
  replace Ro := Lib.hid (Ro.out.below hbl)
  replace HNo := Lib.hid (HNo.out.below hbl)
  replace Rh := Lib.hid (Rh.out.below hbl)
  replace HNh := Lib.hid (HNh.out.below hbl)
  replace HW := Lib.hid (bel_trans HW.out hbl); clear hbl
  go_wp2_with fail
  refine (alive_any _ T.out).mono ?_
  rintro e w10 ⟨rfl, hbl⟩
  replace RA := Lib.hid (RA.out.below hbl)
  replace T := Lib.hid (T.out.below hbl)
  replace Rp := Lib.hid (Rp.out.below hbl)
  replace HNp := Lib.hid (HNp.out.below hbl)
  replace Ro := Lib.hid (Ro.out.below hbl)
  replace HNo := Lib.hid (HNo.out.below hbl)
  replace Rh := Lib.hid (Rh.out.below hbl)
  replace HNh := Lib.hid (HNh.out.below hbl)
  replace HW := Lib.hid (bel_trans HW.out hbl); clear hbl
  go_wp2_with fail
  refine (refRightR LA.out A cap _ RA.out).mono ?_
  rintro e w11 ⟨rfl, hbl⟩
  replace RA := Lib.hid (RA.out.below hbl)
  replace T := Lib.hid (T.out.below hbl)
  replace Rp := Lib.hid (Rp.out.below hbl)
  replace HNp := Lib.hid (HNp.out.below hbl)
  replace Ro := Lib.hid (Ro.out.below hbl)
  replace HNo := Lib.hid (HNo.out.below hbl)
  replace Rh := Lib.hid (Rh.out.below hbl)
  replace HNh := Lib.hid (HNh.out.below hbl)
  replace HW := Lib.hid (bel_trans HW.out hbl); clear hbl
  go_wp2_with fail
  refine (refRightR LA.out A cap _ RA.out).mono ?_
  rintro e w12 ⟨rfl, hbl⟩
  replace RA := Lib.hid (RA.out.below hbl)
  replace T := Lib.hid (T.out.below hbl)
  replace Rp := Lib.hid (Rp.out.below hbl)
  replace HNp := Lib.hid (HNp.out.below hbl)
  replace Ro := Lib.hid (Ro.out.below hbl)
  replace HNo := Lib.hid (HNo.out.below hbl)
  replace Rh := Lib.hid (Rh.out.below hbl)
  replace HNh := Lib.hid (HNh.out.below hbl)
  replace HW := Lib.hid (bel_trans HW.out hbl); clear hbl
  go_wp2_with fail
  refine (text_num A cap a _ RA.out LA.out).mono ?_
  rintro e w13 ⟨rfl, hbl⟩
  replace RA := Lib.hid (RA.out.below hbl)
  replace T := Lib.hid (T.out.below hbl)
  replace Rp := Lib.hid (Rp.out.below hbl)
  replace HNp := Lib.hid (HNp.out.below hbl)
  replace Ro := Lib.hid (Ro.out.below hbl)
  replace HNo := Lib.hid (HNo.out.below hbl)
  replace Rh := Lib.hid (Rh.out.below hbl)
  replace HNh := Lib.hid (HNh.out.below hbl)
  replace HW := Lib.hid (bel_trans HW.out hbl); clear hbl
  rcases hbase.out with b1 | ⟨b1, b2⟩ | ⟨b1, b2, b3⟩ | ⟨b1, b2, b3, b4⟩
  · go_wp2_with fail
    refine (syn_is s b true _ HZ.out HO.out).mono ?_
    rintro e w14 ⟨rfl, hbl⟩
    replace RA := Lib.hid (RA.out.below hbl)
    replace T := Lib.hid (T.out.below hbl)
    replace Rp := Lib.hid (Rp.out.below hbl)
    replace HNp := Lib.hid (HNp.out.below hbl)
    replace Ro := Lib.hid (Ro.out.below hbl)
    replace HNo := Lib.hid (HNo.out.below hbl)
    replace Rh := Lib.hid (Rh.out.below hbl)
    replace HNh := Lib.hid (HNh.out.below hbl)
    replace HW := Lib.hid (bel_trans HW.out hbl); clear hbl
    go_wp2_with fail
    refine (refParse_any s b _ HZ.out HBL.out.2 (syn_parts HO.out).2).mono ?_
    rintro e w15 ⟨rfl, hbl⟩
    replace RA := Lib.hid (RA.out.below hbl)
    replace T := Lib.hid (T.out.below hbl)
    replace Rp := Lib.hid (Rp.out.below hbl)
    replace HNp := Lib.hid (HNp.out.below hbl)
    replace Ro := Lib.hid (Ro.out.below hbl)
    replace HNo := Lib.hid (HNo.out.below hbl)
    replace Rh := Lib.hid (Rh.out.below hbl)
    replace HNh := Lib.hid (HNh.out.below hbl)
    replace HW := Lib.hid (bel_trans HW.out hbl); clear hbl
    go_wp2_with fail
    refine (is_any _ (numOf b (codes s)) _ _ HNp.out rfl).mono ?_
    rintro e w16 ⟨rfl, hbl⟩
    replace RA := Lib.hid (RA.out.below hbl)
    replace T := Lib.hid (T.out.below hbl)
    replace Rp := Lib.hid (Rp.out.below hbl)
    replace HNp := Lib.hid (HNp.out.below hbl)
    replace Ro := Lib.hid (Ro.out.below hbl)
    replace HNo := Lib.hid (HNo.out.below hbl)
    replace Rh := Lib.hid (Rh.out.below hbl)
    replace HNh := Lib.hid (HNh.out.below hbl)
    replace HW := Lib.hid (bel_trans HW.out hbl); clear hbl
    go_wp2
    go_ret
    exact ⟨rfl, HW.out⟩
  · go_wp2_with fail
    refine (syn_is s b true _ HZ.out HO.out).mono ?_
    rintro e w14 ⟨rfl, hbl⟩
    replace RA := Lib.hid (RA.out.below hbl)
    replace T := Lib.hid (T.out.below hbl)
    replace Rp := Lib.hid (Rp.out.below hbl)
    replace HNp := Lib.hid (HNp.out.below hbl)
    replace Ro := Lib.hid (Ro.out.below hbl)
    replace HNo := Lib.hid (HNo.out.below hbl)
    replace Rh := Lib.hid (Rh.out.below hbl)
    replace HNh := Lib.hid (HNh.out.below hbl)
    replace HW := Lib.hid (bel_trans HW.out hbl); clear hbl
    go_wp2_with fail
    refine (refParse_any s b _ HZ.out HBL.out.2 (syn_parts HO.out).2).mono ?_
    rintro e w15 ⟨rfl, hbl⟩
    replace RA := Lib.hid (RA.out.below hbl)
    replace T := Lib.hid (T.out.below hbl)
    replace Rp := Lib.hid (Rp.out.below hbl)
    replace HNp := Lib.hid (HNp.out.below hbl)
    replace Ro := Lib.hid (Ro.out.below hbl)
    replace HNo := Lib.hid (HNo.out.below hbl)
    replace Rh := Lib.hid (Rh.out.below hbl)
    replace HNh := Lib.hid (HNh.out.below hbl)
    replace HW := Lib.hid (bel_trans HW.out hbl); clear hbl
    go_wp2_with fail
    refine (is_any _ (numOf b (codes s)) _ _ HNp.out rfl).mono ?_
    rintro e w16 ⟨rfl, hbl⟩
    replace RA := Lib.hid (RA.out.below hbl)
    replace T := Lib.hid (T.out.below hbl)
    replace Rp := Lib.hid (Rp.out.below hbl)
    replace HNp := Lib.hid (HNp.out.below hbl)
    replace Ro := Lib.hid (Ro.out.below hbl)
    replace HNo := Lib.hid (HNo.out.below hbl)
    replace Rh := Lib.hid (Rh.out.below hbl)
    replace HNh := Lib.hid (HNh.out.below hbl)
    replace HW := Lib.hid (bel_trans HW.out hbl); clear hbl
    go_wp2
    go_ret
    exact ⟨rfl, HW.out⟩
  · go_wp2_with fail
    refine (syn_is s b true _ HZ.out HO.out).mono ?_
    rintro e w14 ⟨rfl, hbl⟩
    replace RA := Lib.hid (RA.out.below hbl)
    replace T := Lib.hid (T.out.below hbl)
    replace Rp := Lib.hid (Rp.out.below hbl)
    replace HNp := Lib.hid (HNp.out.below hbl)
    replace Ro := Lib.hid (Ro.out.below hbl)
    replace HNo := Lib.hid (HNo.out.below hbl)
    replace Rh := Lib.hid (Rh.out.below hbl)
    replace HNh := Lib.hid (HNh.out.below hbl)
    replace HW := Lib.hid (bel_trans HW.out hbl); clear hbl
    go_wp2_with fail
    refine (refParse_any s b _ HZ.out HBL.out.2 (syn_parts HO.out).2).mono ?_
    rintro e w15 ⟨rfl, hbl⟩
    replace RA := Lib.hid (RA.out.below hbl)
    replace T := Lib.hid (T.out.below hbl)
    replace Rp := Lib.hid (Rp.out.below hbl)
    replace HNp := Lib.hid (HNp.out.below hbl)
    replace Ro := Lib.hid (Ro.out.below hbl)
    replace HNo := Lib.hid (HNo.out.below hbl)
    replace Rh := Lib.hid (Rh.out.below hbl)
    replace HNh := Lib.hid (HNh.out.below hbl)
    replace HW := Lib.hid (bel_trans HW.out hbl); clear hbl
    go_wp2_with fail
    refine (is_any _ (numOf b (codes s)) _ _ HNp.out rfl).mono ?_
    rintro e w16 ⟨rfl, hbl⟩
    replace RA := Lib.hid (RA.out.below hbl)
    replace T := Lib.hid (T.out.below hbl)
    replace Rp := Lib.hid (Rp.out.below hbl)
    replace HNp := Lib.hid (HNp.out.below hbl)
    replace Ro := Lib.hid (Ro.out.below hbl)
    replace HNo := Lib.hid (HNo.out.below hbl)
    replace Rh := Lib.hid (Rh.out.below hbl)
    replace HNh := Lib.hid (HNh.out.below hbl)
    replace HW := Lib.hid (bel_trans HW.out hbl); clear hbl
    go_wp2
    go_ret
    exact ⟨rfl, HW.out⟩
  · go_wp2_with fail
    refine (syn_is s b true _ HZ.out HO.out).mono ?_
    rintro e w14 ⟨rfl, hbl⟩
    replace RA := Lib.hid (RA.out.below hbl)
    replace T := Lib.hid (T.out.below hbl)
    replace Rp := Lib.hid (Rp.out.below hbl)
    replace HNp := Lib.hid (HNp.out.below hbl)
    replace Ro := Lib.hid (Ro.out.below hbl)
    replace HNo := Lib.hid (HNo.out.below hbl)
    replace Rh := Lib.hid (Rh.out.below hbl)
    replace HNh := Lib.hid (HNh.out.below hbl)
    replace HW := Lib.hid (bel_trans HW.out hbl); clear hbl
    go_wp2_with fail
    refine (refParse_any s b _ HZ.out HBL.out.2 (syn_parts HO.out).2).mono ?_
    rintro e w15 ⟨rfl, hbl⟩
    replace RA := Lib.hid (RA.out.below hbl)
    replace T := Lib.hid (T.out.below hbl)
    replace Rp := Lib.hid (Rp.out.below hbl)
    replace HNp := Lib.hid (HNp.out.below hbl)
    replace Ro := Lib.hid (Ro.out.below hbl)
    replace HNo := Lib.hid (HNo.out.below hbl)
    replace Rh := Lib.hid (Rh.out.below hbl)
    replace HNh := Lib.hid (HNh.out.below hbl)
    replace HW := Lib.hid (bel_trans HW.out hbl); clear hbl
    go_wp2_with fail
    refine (is_any _ (numOf b (codes s)) _ _ HNp.out rfl).mono ?_
    rintro e w16 ⟨rfl, hbl⟩
    replace RA := Lib.hid (RA.out.below hbl)
    replace T := Lib.hid (T.out.below hbl)
    replace Rp := Lib.hid (Rp.out.below hbl)
    replace HNp := Lib.hid (HNp.out.below hbl)
    replace Ro := Lib.hid (Ro.out.below hbl)
    replace HNo := Lib.hid (HNo.out.below hbl)
    replace Rh := Lib.hid (Rh.out.below hbl)
    replace HNh := Lib.hid (HNh.out.below hbl)
    replace HW := Lib.hid (bel_trans HW.out hbl); clear hbl
    go_wp2
    go_ret
    exact ⟨rfl, HW.out⟩

theorem law_texts (A : Option Addr) (cap : Nat) (x0 : List Nat) (n : Int) (s0 : ByteArray) (i : Int) (w : World) (h : RdL w A x0) (hc : x0.length ≤ cap) (ht : Bases w) (hx : Lim x0) (hn : 0 ≤ n ∧ n < 18446744073709551616) :
    Calls Tryd.prog 3 #[.slice A x0.length cap, .int .u64 n, .string s0, .int .i64 i] w (RetT w) := by
  obtain ⟨k, rfl, hk⟩ : ∃ k : Nat, n = (k : Int) ∧ k < 18446744073709551616 := ⟨n.toNat, by omega, by omega⟩
  obtain ⟨m, s, hm, hs, hsz, _, hm2⟩ := cut_str s0 200
  have hsz' : s.size ≤ 1000 := by omega
  cases hb : isBase i
  · cases hr : rightL (few x0)
    · exact texts_bad_arg A cap x0 k s0 s m i w h hc ht hk hm hs hsz' hr hb
    · obtain ⟨a, ha, ha2⟩ := right_num (few_lim hx) hr
      exact texts_ok_arg A cap x0 k s0 s m a i w h hc ht hk hm hs hsz' ha ha2 hb
  · obtain ⟨b, rfl⟩ := base_nat hb
    cases ho : (!oddIn b (codes s) && decide (0 < s.size)) <;> cases hr : rightL (few x0)
    · exact texts_bad_syn A cap x0 k s0 s m b w h hc ht hk hm hs hsz' hr hb ho
    · obtain ⟨a, ha, ha2⟩ := right_num (few_lim hx) hr
      exact texts_ok_syn A cap x0 k s0 s m a b w h hc ht hk hm hs hsz' ha ha2 hb ho
    · exact texts_bad_num A cap x0 k s0 s m b w h hc ht hk hm hs hsz' hr hb ho
    · obtain ⟨a, ha, ha2⟩ := right_num (few_lim hx) hr
      exact texts_ok_num A cap x0 k s0 s m a b w h hc ht hk hm hs hsz' ha ha2 hb ho
end Go.Proofs.YtmbbdjpnecjleaaDoor
