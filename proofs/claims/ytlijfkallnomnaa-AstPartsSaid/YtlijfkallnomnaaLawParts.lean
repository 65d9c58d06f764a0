/-
  AstParts, walked.
-/
import Derived.Test.YtlijfkallnomnaaLawCuts
import Derived.Test.YtlijfkallnomnaaPartsLaw
import Derived.Deep.RegionHeld3
namespace Go.Proofs.Ytlijfkallnomnaa
open Go.RowKit

set_option maxRecDepth 100000 in
set_option maxHeartbeats 4000000 in
theorem law_parts (A : Option Addr) (cap : Nat) (L : List Nd) (w : World) (h : NdsRb maxLen w A L) (hc : L.length ≤ cap) :
    Calls Try.prog 5 #[.slice A L.length cap] w (RetT w) := by
  have H := Lib.hid h; clear h
  cases ht : isTree (fewL L)
  case false =>
    have HT := Lib.hid ht; clear ht
    go_enter Try.func5, Try.ntmps5
    go_wp2_with fail
    refine (few_any A cap L _ H.out hc).mono ?_
    rintro e w1 ⟨A1, c1, rfl, hc1, hn1, hb1⟩
    have HN1 := Lib.hid hn1; clear hn1
    have HB1 := Lib.hid hb1; clear hb1
    go_wp2_with fail
    refine (right_any A1 c1 (fewL L) _ HN1.out).mono ?_
    rintro e w4 ⟨rfl, hb4⟩
    have HB4 := Lib.hid hb4; clear hb4
    rw [HT.out]
    go_wp2_with fail
    refine (alive_any _).mono ?_
    rintro e w6 ⟨rfl, hb6⟩
    have HB6 := Lib.hid hb6; clear hb6
    go_wp2
    go_ret
    exact ⟨rfl, bel_trans (bel_trans HB1.out HB4.out) HB6.out⟩
  case true =>
    have HT := Lib.hid ht; clear ht
    have HP : Hid (TreeP (fewL L)) := (isTree_iff _).1 HT.out
    obtain ⟨hl1, hl2⟩ := HP.out.len
    go_enter Try.func5, Try.ntmps5
    go_wp2_with fail
    refine (few_any A cap L _ H.out hc).mono ?_
    rintro e w1 ⟨A1, c1, rfl, hc1, hn1, hb1⟩
    have HN1 := Lib.hid hn1; clear hn1
    have HB1 := Lib.hid hb1; clear hb1
    go_wp2_with fail
    refine (right_any A1 c1 (fewL L) _ HN1.out).mono ?_
    rintro e w2 ⟨rfl, hb2⟩
    have HB2 := Lib.hid hb2; clear hb2
    rw [HT.out]
    have elast : ((fewL L).length : Int) - 1 = (((fewL L).length - 1 : Nat) : Int) := by omega
    go_wp2_with fail
    refine (cut_tree A1 c1 (fewL L) HP.out hc1 ((fewL L).length - 1) (by omega) _ (HN1.out.below HB2.out) (fewL_kids L)).mono ?_
    rintro e w3 ⟨A3, c3, M, rfl, hc3, hn3, hd3, hb3⟩
    have HN3 := Lib.hid hn3; clear hn3
    rw [cutD_root HP.out] at hd3
    have HB3 := Lib.hid hb3; clear hb3
    have hlike : likeL M (fewL L) = true := by rw [← likeL_dat, hd3, likeL_dat, likeL_self]
    go_wp2_with fail
    refine (deep_tree A1 c1 (fewL L) _ (HN1.out.below (bel_trans HB2.out HB3.out)) HT.out HP.out.kids hl1 hl2).mono ?_
    rintro e w4 ⟨rfl, hb4⟩
    have HB4 := Lib.hid hb4; clear hb4
    go_wp2_with fail
    refine (refLike_any A3 A1 c3 c1 M (fewL L) _ (HN3.out.below HB4.out) (HN1.out.below (bel_trans (bel_trans HB2.out HB3.out) HB4.out))).mono ?_
    rintro e w5 ⟨rfl, n5, rfl⟩
    rw [hlike]
    go_wp2_with fail
    refine (alive_any _).mono ?_
    rintro e w6 ⟨rfl, hb6⟩
    have HB6 := Lib.hid hb6; clear hb6
    have HB7 : Hid (Below w1.heap.size w1 w6) := bel_trans (bel_drewN (bel_trans (bel_trans HB2.out HB3.out) HB4.out) n5) HB6.out
    have HB8 : Hid (Below w.heap.size w w6) := bel_trans HB1.out HB7.out
    clear HB6 HB4 HB3 HB2 HB1 HN3
    obtain ⟨b, off, kd, tx, ka, kc, ks, pl, hA, hnd, hb, c0, c1', c2, c3', hkids, hkl, hkc⟩ := HN1.out.node HB7.out (k := (fewL L).length - 1) (by omega)
    subst hA
    have HN : Hid (ks = kidsOf (fewL L) ((fewL L).length - 1)) := by show ks = _; unfold kidsOf; rw [← hnd]
    clear hnd
    have HK := Lib.hid hkids; clear hkids
    go_wp2
    clear c0 c1' c2 c3'
    obtain ⟨r, hr⟩ : ∃ r : Nat, r = (fewL L).length - 1 := ⟨_, rfl⟩
    rw [← hr] at HN
    have hrl : r < (fewL L).length := by omega
    have hr' := Lib.hid hr; clear hr
    go_loopw [8, 9, 58] (fun s mo j wr => ∃ m : Nat, m ≤ ks.length ∧ j = .int .i64 m ∧ s = .int .i64 (ptUpto (fewL L) r ks m).length ∧ mo = .int .i64 (mostOf (fewL L) ks m) ∧ Below w6.heap.size w6 wr) (fun _ _ j _ => ks.length - (intOf j).toNat)
    case atStart => exact ⟨0, Nat.zero_le _, rfl, rfl, rfl, bel_refl _⟩
    case round =>
      obtain ⟨w9, hw⟩ : ∃ x, x = wr := ⟨_, rfl⟩
      subst hw
      obtain ⟨m, hm, rfl, rfl, rfl, hb9⟩ := hrel
      have HB9 := Lib.hid (bel_trans HB7.out hb9)
      have HB96 := Lib.hid hb9; clear hb9
      have mb : 0 ≤ mostOf (fewL L) ks m ∧ mostOf (fewL L) ks m ≤ r := by rw [HN.out]; exact mostOf_bounds HP.out.kids hrl m
      obtain ⟨mb0, mb1⟩ := mb
      have hs0 : (ptUpto (fewL L) r ks m).length ≤ (fewL L).length := by
        refine Nat.le_trans (ptUpto_len (fewL L) r ks m) ?_
        rw [HN.out, ptUpto_all HP.out.kids hrl, hr'.out, pt_root_len HP.out]
        exact Nat.le_refl _
      by_cases hlt : m < ks.length
      · obtain ⟨b', off', rfl, hb', hcell⟩ := (HK.out.below HB9.out).at_ hlt
        obtain ⟨q, hq⟩ : ∃ q : Int, q = ks.getD m 0 := ⟨_, rfl⟩
        rw [← hq] at hcell
        have hmem : q ∈ kidsOf (fewL L) r := by rw [← HN.out, hq, List.getD_eq_getElem?_getD, List.getElem?_eq_getElem hlt]; exact List.getElem_mem hlt
        have HMEM := Lib.hid hmem; clear hmem
        have HQ := Lib.hid hq; clear hq
        obtain ⟨q0, q1⟩ := HP.out.kids r hrl q HMEM.out
        obtain ⟨q, rfl⟩ := Int.eq_ofNat_of_zero_le q0
        have q1' : q < (fewL L).length := by omega
        go_wp2_with fail
        refine (cut_tree _ c1 (fewL L) HP.out hc1 q q1' _ (HN1.out.below HB9.out) (fewL_kids L)).mono ?_
        rintro e w10 ⟨A5, c5, M5, rfl, hc5, hn5, hd5, hb10⟩
        have HN5 := Lib.hid hn5; clear hn5
        have HB10 := Lib.hid hb10; clear hb10
        obtain ⟨t1, t2, t3, t4, t5⟩ := part_tree HP.out q1' hd5
        have HT5 := Lib.hid t1; clear t1
        have HP5 := Lib.hid t2; clear t2
        have HD5 := Lib.hid t3; clear t3
        have HL5 := Lib.hid t4; clear t4
        have HK5 := Lib.hid t5; clear t5 hd5
        obtain ⟨m1, m2⟩ := HP5.out.len
        go_wp2_with fail
        refine (deep_tree A5 c5 M5 _ HN5.out HT5.out HP5.out.kids m1 m2).mono ?_
        rintro e w11 ⟨rfl, hb11⟩
        have HB11 := Lib.hid hb11; clear hb11
        rw [HD5.out]
        have HB12 : Hid (Below w1.heap.size w1 w11) := bel_trans (bel_trans HB9.out HB10.out) HB11.out
        have HN5b : Hid (NdsR w11 A5 M5) := HN5.out.below HB11.out
        obtain ⟨b0, off0, kdq, txq, kaq, kcq, ksq, plq, hA, hndq, hbq, cq0, _, _, _, _, _, _⟩ := HN1.out.node HB12.out q1'
        injection hA with hA
        injection hA with hA1 hA2 _
        subst hA1 hA2
        obtain ⟨b5, off5, kd5, tx5, ka5, kc5, ks5, pl5, hA5, hnd5, hb5, c50, _, _, _, _, _, _⟩ := HN5b.out.node (Below.refl _ _) (k := M5.length - 1) (by omega)
        subst hA5
        have hkd : kd5 = kdq := by
          have := HK5.out
          rw [← hnd5, ← hndq] at this
          exact this
        subst hkd
        clear hnd5 hndq
        have elast5 : IntKind.i64.wrap ((M5.length : Int) - 1) = ((M5.length - 1 : Nat) : Int) := by
          rw [show (M5.length : Int) - 1 = ((M5.length - 1 : Nat) : Int) by omega, IntKind.wrap_i64]
          omega
        have hj0 : (0 : Int) ≤ ((M5.length - 1 : Nat) : Int) := by omega
        have hj1 : ((M5.length - 1 : Nat) : Int) < (M5.length : Int) := by omega
        have hge : Hid (¬ dep (fewL L) ((fewL L).length - 1) ≤ dep (fewL L) q) := by
          have := dep_kid HP.out.kids hrl HMEM.out
          rw [hr'.out, Int.toNat_natCast] at this
          show ¬ _
          omega
        have hge' : decide (dep (fewL L) q ≥ dep (fewL L) ((fewL L).length - 1)) = false := decide_eq_false hge.out
        have hm0 : ((M5.length : Int) == 0) = false := by rw [beq_eq_false_iff_ne]; omega
        have hkk : (kd5 != kd5) = false := by simp
        go_wp2_with fail
        go_region_held3 (fun w' => w'.cell? ⟨b, off + q * 4, none⟩ = some (.int .i64 kd5) ∧ w'.cell? ⟨b5, off5 + (M5.length - 1) * 4, none⟩ = some (.int .i64 kd5))
          (first | exact ⟨cq0, c50⟩ | exact ⟨cq0', c50'⟩)
          (first | (go_at_call 8; (with_reducible refine (right_any (some ⟨b5, off5, none⟩) c5 M5 _ ?_).mono ?_); first | exact HN5b.out | exact HN5b.out.below (Below.refl _ _).drew; rintro e w12 ⟨rfl, hb12⟩; rw [HT5.out]; have hbb := Lib.hid hb12; clear hb12; have cq0' := (hbb.out.cell (p := ⟨b, off + q * 4, none⟩) hbq).trans cq0; have c50' := (hbb.out.cell (p := ⟨b5, off5 + (M5.length - 1) * 4, none⟩) hb5).trans c50))
        go_wp2
        have hsucc : (ptUpto (fewL L) r ks (m + 1)).length = (ptUpto (fewL L) r ks m).length + M5.length := by
          rw [ptUpto_succ _ _ _ _ hlt, List.length_append, ← HQ.out, Int.toNat_natCast, HL5.out]
        have hs1 : (ptUpto (fewL L) r ks (m + 1)).length ≤ (fewL L).length := by
          refine Nat.le_trans (ptUpto_len (fewL L) r ks (m + 1)) ?_
          rw [HN.out, ptUpto_all HP.out.kids hrl, hr'.out, pt_root_len HP.out]
          exact Nat.le_refl _
        have hmo : mostOf (fewL L) ks (m + 1) = if mostOf (fewL L) ks m < dep (fewL L) q then dep (fewL L) q else mostOf (fewL L) ks m := by
          rw [mostOf_succ _ _ _ hlt, ← HQ.out, Int.toNat_natCast]
          split <;> omega
        go_roundw
        case rel =>
          refine ⟨m + 1, by omega, by go_num, ?_, by rw [hmo], bel_trans HB96.out (bel_trans HB10.out (bel_trans HB11.out (bel_trans (Below.refl _ _).drew hbb.out)))⟩
          rw [hsucc]
          congr 1
        case measure => simp [intOf]; omega
      · have hmm : m = ks.length := by omega
        have hse : (ptUpto (fewL L) r ks m).length = (fewL L).length := by
          rw [hmm, HN.out, ptUpto_all HP.out.kids hrl, hr'.out, pt_root_len HP.out]
        have hde : dep (fewL L) ((fewL L).length - 1) = mostOf (fewL L) ks m + 1 := by
          rw [hmm, HN.out, ← hr'.out]
          exact dep_most HP.out.kids hrl
        have HM := Lib.hid hmm; clear hmm
        rw [hse]
        go_wp2
        go_ret
        exact ⟨rfl, bel_trans HB8.out HB96.out⟩
end Go.Proofs.Ytlijfkallnomnaa
