/-
  Layer 5's reference: numbers; walked.
-/
import Derived.Test.YtkaafakodeeidaaDoorRefA
import Derived.BigQuiet
import Derived.Deep.DeepCutAuto
namespace Go.Proofs.YtkaafakodeeidaaDoor
open Go.RowKit

/-- Is a sign the number's own here? -/
def eB (t : ByteArray) (k : Nat) : Bool := decide (0 < k) && (decide (bt t (k - 1) = 101) || decide (bt t (k - 1) = 69)) && !hexB t
theorem numP_e (t : ByteArray) (k : Nat) : numP t k = (wordB (bt t k) || decide (bt t k = 46) || ((decide (bt t k = 43) || decide (bt t k = 45)) && eB t k)) := by
  unfold numP eB
  rw [Bool.and_assoc, Bool.and_assoc, Bool.and_assoc]
def kindTo (t : ByteArray) (k : Nat) : Nat := if (!basedB t && (List.range k).any fun j => pointB (bt t j)) = true then 3 else 2
theorem kindTo_0 (t : ByteArray) : kindTo t 0 = 2 := by unfold kindTo; simp
theorem kindTo_based {t : ByteArray} (h : basedB t = true) (k : Nat) : kindTo t k = 2 := by unfold kindTo; rw [h]; simp
theorem kindTo_pt {t : ByteArray} {k : Nat} (h : basedB t = false) (hp : pointB (bt t k) = true) : kindTo t (k + 1) = 3 := by
  unfold kindTo
  rw [h, List.range_succ, List.any_append]
  simp [hp]
theorem kindTo_no {t : ByteArray} {k : Nat} (hp : pointB (bt t k) = false) : kindTo t (k + 1) = kindTo t k := by
  unfold kindTo
  rw [List.range_succ, List.any_append]
  simp [hp]
theorem kindTo_end (t : ByteArray) : kindTo t (numEnd t) = numKind t := by
  unfold numKind kindTo
  congr 1
  simp only [Bool.and_eq_true, Bool.not_eq_true', List.any_eq_true, List.mem_range]
/-- The letter of a number's base; 0: none. -/
def baseV (t : ByteArray) : Nat := if bt t 0 = 48 then upB5 (bt t 1) else 0
theorem base_other (t : ByteArray) : basedB t = (decide (baseV t = 88) || decide (baseV t = 66) || decide (baseV t = 79)) := by
  unfold basedB baseV
  by_cases h0 : bt t 0 = 48
  · rw [if_pos h0, decide_eq_true h0, Bool.true_and, Bool.eq_iff_iff]
    simp only [Bool.and_eq_true, Bool.or_eq_true, decide_eq_true_eq]
    rw [up_is (k := 88) (by decide) (by decide), up_is (k := 66) (by decide) (by decide), up_is (k := 79) (by decide) (by decide)]
    constructor
    · rintro ⟨_, h⟩; omega
    · intro h
      refine ⟨?_, by omega⟩
      rcases Nat.lt_or_ge 1 t.size with h1 | h1
      · exact h1
      · rw [bt_none t (by omega)] at h; omega
  · rw [if_neg h0, decide_eq_false h0]
    simp
theorem base_hex (t : ByteArray) : hexB t = decide (baseV t = 88) := by
  unfold hexB
  rw [base_other]
  unfold baseV
  by_cases h0 : bt t 0 = 48
  · rw [if_pos h0, Bool.eq_iff_iff]
    simp only [Bool.and_eq_true, Bool.or_eq_true, decide_eq_true_eq]
    rw [up_is (k := 88) (by decide) (by decide), up_is (k := 66) (by decide) (by decide), up_is (k := 79) (by decide) (by decide)]
    omega
  · rw [if_neg h0]
    simp
theorem point_up {c : Nat} : pointB c = (decide (c = 46) || decide (upB5 c = 69)) := by
  unfold pointB
  rw [Bool.eq_iff_iff]
  simp only [Bool.or_eq_true, decide_eq_true_eq]
  rw [up_is (k := 69) (by decide) (by decide)]
  omega
theorem upper_is {c v : Nat} (w : World) (hc : c < 256) (h : upB5 c = v) : Calls Tryd.prog 50 #[.int .u8 (c : Int)] w (fun e w' => e = .returned (.int .u8 (v : Int)) ∧ w' = w) := by
  rw [← h]
  exact upper_any c w hc
set_option maxRecDepth 100000 in
set_option maxHeartbeats 2000000 in
theorem refNumber_any (s : ByteArray) (i : Nat) (w : World) (hs : s.size ≤ 100000) (hi : i < s.size) : Calls Tryd.prog 38 #[.string s, .int .i64 (i : Int)] w (RetT (numKind (tl s i), i + numEnd (tl s i), 0) w) := by
  have a0 : (i : Int) < (s.size : Int) := by omega
  have g0 := bt_get s (i := i) hi
  have sI : IntKind.i64.wrap ((i : Int) + 1) = ((i + 1 : Nat) : Int) := by rw [IntKind.wrap_i64]; omega
  have hT := tl_is s i
  obtain ⟨t, ht⟩ : ∃ t, tl s i = t := ⟨_, rfl⟩
  rw [ht] at hT ⊢
  have HT := Lib.hid (And.intro hT (fun j => (by rw [← ht]; exact tl_bt s i j : bt t j = bt s (i + j))))
  have HS := Lib.hid hs
  obtain ⟨b0, hb0⟩ : ∃ b0, bt s i = b0 := ⟨_, rfl⟩
  rw [hb0] at g0
  obtain ⟨b1, hb1⟩ : ∃ b1, bt s (i + 1) = b1 := ⟨_, rfl⟩
  have HB1 := Lib.hid (show b1 < 256 by rw [← hb1]; exact bt_lt s (i + 1))
  have KA := Lib.hid (fun W => at_is s (i + 1) W hb1)
  obtain ⟨V, hV⟩ : ∃ V, baseV t = V := ⟨_, rfl⟩
  have hV2 : V = if b0 = 48 then upB5 b1 else 0 := by rw [← hV]; unfold baseV; rw [HT.out.2, HT.out.2, Nat.add_zero, hb0, hb1]
  have HV2 := Lib.hid hV2
  obtain ⟨ob, hob⟩ : ∃ ob, basedB t = ob := ⟨_, rfl⟩
  have HOV : Hid (ob = (decide (V = 88) || decide (V = 66) || decide (V = 79))) := Lib.hid (by rw [← hob, ← hV]; exact base_other t)
  have HX : Hid (hexB t = decide (V = 88)) := Lib.hid (by rw [← hV]; exact base_hex t)
  have HO := Lib.hid hob
  clear hob hV hV2 hb0 hb1 ht hT hs
  obtain ⟨wa, hwa⟩ : ∃ wa, wa = w.alloc (.cells #[.int .i64 0, .int .i64 0, .int .i64 0] 47) := ⟨_, rfl⟩
  have hbl : Below w.heap.size w wa := by rw [hwa]; exact bel_alloc (bel_refl _) _
  have RES : Blk wa w.heap.size 47 #[.int .i64 0, .int .i64 0, .int .i64 0] := by
    have hz := Blk.new w 47 #[.int .i64 0, .int .i64 0, .int .i64 0]
    rw [hwa]
    exact hz
  have HW := Lib.hid hbl; clear hbl
  replace RES := Lib.hid RES
  go_enter Tryd.func38, Tryd.ntmps38
  go_upto_if 14 with fail
  rw [← hwa]
  clear hwa
  go_cut [5] (fun v wx => v = .int .u8 (V : Int) ∧ wx = wa)
  case first =>
    by_cases h48 : b0 = 48
    · have q1 : ((b0 : Int) == 48) = true := by simp [h48]
      have q2 : (b0 : Int) = 48 := by omega
      have KU := Lib.hid (upper_is (v := V) wa HB1.out (by rw [HV2.out, if_pos h48]))
      clear h48
      go_wp2_with fail
      refine (KA.out _).mono ?_
      rintro e w1 ⟨rfl, rfl⟩
      go_wp2_with fail
      refine KU.out.mono ?_
      rintro e w1 ⟨rfl, rfl⟩
      go_wp2_with fail
      go_meet
      exact ⟨rfl, rfl⟩
    · have q1 : ((b0 : Int) == 48) = false := by simp only [beq_eq_false_iff_ne, ne_eq]; omega
      have q2 : ¬ (b0 : Int) = 48 := by omega
      have hv0 : V = 0 := by rw [HV2.out, if_neg h48]
      have HV0 := Lib.hid hv0; clear h48 hv0
      go_wp2_with fail
      go_meet
      exact ⟨by rw [HV0.out]; rfl, rfl⟩
  case rest =>
    obtain ⟨rfl, rfl⟩ := hcut
    go_upto_region 4 with fail
    go_cut [6] (fun v wx => v = .bool ob ∧ wx = wc)
    case first =>
      by_cases h1 : V = 88
      · subst h1
        go_wp2_with fail
        go_meet
        exact ⟨by rw [HOV.out]; rfl, rfl⟩
      · by_cases h2 : V = 66
        · subst h2
          go_wp2_with fail
          go_meet
          exact ⟨by rw [HOV.out]; rfl, rfl⟩
        · by_cases h3 : V = 79
          · subst h3
            go_wp2_with fail
            go_meet
            exact ⟨by rw [HOV.out]; rfl, rfl⟩
          · have q1 : ((V : Int) == 88) = false := by simp only [beq_eq_false_iff_ne, ne_eq]; omega
            have q2 : ((V : Int) == 66) = false := by simp only [beq_eq_false_iff_ne, ne_eq]; omega
            have q3 : ((V : Int) == 79) = false := by simp only [beq_eq_false_iff_ne, ne_eq]; omega
            have r1 : ¬ (V : Int) = 88 := by omega
            have r2 : ¬ (V : Int) = 66 := by omega
            have r3 : ¬ (V : Int) = 79 := by omega
            have hof : ob = false := by rw [HOV.out, decide_eq_false h1, decide_eq_false h2, decide_eq_false h3]; rfl
            have HOF := Lib.hid hof; clear h1 h2 h3 hof
            go_wp2_with fail
            go_meet
            exact ⟨by rw [HOF.out], rfl⟩
    case rest =>
      obtain ⟨rfl, rfl⟩ := hcut
      go_wp2_with fail
      go_loopw [7, 8, 9, 10] (fun kv ev _ _ wr => ∃ k : Nat, kv = .int .i64 (kindTo t k : Int) ∧ ev = .int .i64 ((i + k : Nat) : Int) ∧ k ≤ t.size ∧ wr = wc ∧ run (numP t) t.size k = numEnd t) (fun _ ev _ _ _ => s.size - (intOf ev).toNat)
      case atStart => exact ⟨0, by rw [kindTo_0]; rfl, rfl, Nat.zero_le _, rfl, rfl⟩
      case round =>
        obtain ⟨k, rfl, rfl, hk, rfl, hr⟩ := hrel
        have HR := Lib.hid hr; clear hr
        obtain ⟨K, hK⟩ : ∃ K, kindTo t k = K := ⟨_, rfl⟩
        rw [hK]
        have HK := Lib.hid hK; clear hK
        obtain ⟨j, hj⟩ : ∃ j, i + k = j := ⟨_, rfl⟩
        rw [hj]
        have HJ := Lib.hid hj; clear hj
        have HJ1 : Hid (i + (k + 1) = j + 1) := Lib.hid (by have := HJ.out; omega)
        by_cases hlt : j < s.size
        · have hlt' : (j : Int) < (s.size : Int) := by omega
          have HKT : Hid (k < t.size) := Lib.hid (by have := HJ.out; have := HT.out.1; omega)
          have g1 := bt_get s hlt
          obtain ⟨c, hc⟩ : ∃ c, bt s j = c := ⟨_, rfl⟩
          rw [hc] at g1
          have HCB : Hid (c < 256 ∧ bt t k = c) := Lib.hid ⟨by rw [← hc]; exact bt_lt s j, by rw [HT.out.2, HJ.out]; exact hc⟩
          clear hc
          obtain ⟨d, hd⟩ : ∃ d, wordB c = d := ⟨_, rfl⟩
          have KW := Lib.hid (refWord_is c wr hd)
          have HD := Lib.hid hd; clear hd
          have s1 : IntKind.i64.wrap ((j : Int) + 1) = ((j + 1 : Nat) : Int) := by rw [IntKind.wrap_i64]; have := HS.out; omega
          by_cases hk0 : k = 0
          · have hji : j = i := by have := HJ.out; omega
            have HE : Hid (eB t k = false) := Lib.hid (by rw [hk0]; rfl)
            have z1 : ¬ (i : Int) < (j : Int) := by omega
            clear hji hk0
            by_cases h46 : c = 46
            · subst h46
              obtain rfl : d = false := by rw [← HD.out]; decide
              have HPT : Hid (pointB (bt t k) = true) := Lib.hid (by rw [HCB.out.2]; rfl)
              have hnp : numP t k = true := by rw [numP_e, HCB.out.2]; simp
              have HNP : Hid (numP t k = true) := Lib.hid hnp
              clear hnp
              cases ob
              · go_wp2_with fail
                refine KW.out.mono ?_
                rintro e w1 ⟨rfl, rfl⟩
                go_wp2
                go_roundw
                case rel => first | exact ⟨k + 1, by rw [kindTo_pt HO.out HPT.out]; rfl, by rw [HJ1.out]; first | done | rfl, by have := HKT.out; omega, by first | rfl | trivial, by rw [← HR.out]; exact (run_step HKT.out HNP.out).symm⟩ | ((repeat apply Exists.intro); exact ⟨⟨k + 1, by rw [kindTo_pt HO.out HPT.out]; rfl, by rw [HJ1.out]; first | done | rfl, by have := HKT.out; omega, by first | rfl | trivial, by rw [← HR.out]; exact (run_step HKT.out HNP.out).symm⟩, rfl⟩)
                case measure => simp [intOf]; omega
              · go_wp2_with fail
                refine KW.out.mono ?_
                rintro e w1 ⟨rfl, rfl⟩
                go_wp2
                go_roundw
                case rel => first | exact ⟨k + 1, by rw [kindTo_based HO.out, ← kindTo_based HO.out k, HK.out], by rw [HJ1.out]; first | done | rfl, by have := HKT.out; omega, by first | rfl | trivial, by rw [← HR.out]; exact (run_step HKT.out HNP.out).symm⟩ | ((repeat apply Exists.intro); exact ⟨⟨k + 1, by rw [kindTo_based HO.out, ← kindTo_based HO.out k, HK.out], by rw [HJ1.out]; first | done | rfl, by have := HKT.out; omega, by first | rfl | trivial, by rw [← HR.out]; exact (run_step HKT.out HNP.out).symm⟩, rfl⟩)
                case measure => simp [intOf]; omega
            · have n46 : ((c : Int) != 46) = true := by simp only [bne_iff_ne, ne_eq]; omega
              have m46 : ¬ (c : Int) = 46 := by omega
              have e46 : ((c : Int) == 46) = false := by simp only [beq_eq_false_iff_ne, ne_eq]; omega
              have HC46 := Lib.hid (decide_eq_false h46)
              cases d
              · have hnp : numP t k = false := by rw [numP_e, HCB.out.2, HE.out, HC46.out, HD.out, Bool.and_false]; rfl
                have hend : numEnd t = k := by
                  have h9 := HR.out
                  rw [run_not hnp] at h9
                  exact h9.symm
                have HEND := Lib.hid hend
                clear hend hnp
                have d0 : wr.cell? ⟨w.heap.size, 0, none⟩ = some (.int .i64 0) := RES.out.cell 0
                have f0 : wr.frozen? ⟨w.heap.size, 0, none⟩ = false := RES.out.frozen 0
                have d1 : wr.cell? ⟨w.heap.size, 1, none⟩ = some (.int .i64 0) := RES.out.cell 1
                have f1 : wr.frozen? ⟨w.heap.size, 1, none⟩ = false := RES.out.frozen 1
                have d2 : wr.cell? ⟨w.heap.size, 2, none⟩ = some (.int .i64 0) := RES.out.cell 2
                have f2 : wr.frozen? ⟨w.heap.size, 2, none⟩ = false := RES.out.frozen 2
                have hlw : w.heap.size < wr.heap.size := RES.out.lt
                have D := Lib.hid (And.intro (RES.out.put3 (.int .i64 (K : Int)) (.int .i64 (j : Int)) (.int .i64 0)) (bel_set3 (g := w.heap.size) HW.out (Nat.le_refl _) (.int .i64 (K : Int)) (.int .i64 (j : Int)) (.int .i64 0)))
                go_wp2_with fail
                refine KW.out.mono ?_
                rintro e w1 ⟨rfl, rfl⟩
                go_wp2
                refine bodyPost_ret (v := .agg #[.int .i64 (K : Int), .int .i64 (j : Int), .int .i64 0]) ?hrs1 rfl ?hRs1
                case hRs1 => exact ⟨by rw [← kindTo_end, HEND.out, HK.out, HJ.out]; rfl, D.out.2⟩
                case hrs1 => exact results_cell_row rfl _ _ w.heap.size 47 _ (0, 0) _ rfl D.out.1 Tryd.underlying47 rfl (by kernel_rfl)
              · have hnp : numP t k = true := by rw [numP_e, HCB.out.2, HD.out]; simp
                have HNP : Hid (numP t k = true) := Lib.hid hnp
                clear hnp
                cases ob
                · obtain ⟨u, hu⟩ : ∃ u, upB5 c = u := ⟨_, rfl⟩
                  have KU := Lib.hid (upper_is (v := u) wr HCB.out.1 hu)
                  by_cases h69 : u = 69
                  · subst h69
                    have HPT : Hid (pointB (bt t k) = true) := Lib.hid (by rw [HCB.out.2, point_up, hu]; simp)
                    clear hu
                    go_wp2_with fail
                    refine KW.out.mono ?_
                    rintro e w1 ⟨rfl, rfl⟩
                    go_wp2_with fail
                    refine KU.out.mono ?_
                    rintro e w1 ⟨rfl, rfl⟩
                    go_wp2
                    go_roundw
                    case rel => first | exact ⟨k + 1, by rw [kindTo_pt HO.out HPT.out]; rfl, by rw [HJ1.out]; first | done | rfl, by have := HKT.out; omega, by first | rfl | trivial, by rw [← HR.out]; exact (run_step HKT.out HNP.out).symm⟩ | ((repeat apply Exists.intro); exact ⟨⟨k + 1, by rw [kindTo_pt HO.out HPT.out]; rfl, by rw [HJ1.out]; first | done | rfl, by have := HKT.out; omega, by first | rfl | trivial, by rw [← HR.out]; exact (run_step HKT.out HNP.out).symm⟩, rfl⟩)
                    case measure => simp [intOf]; omega
                  · have u69 : ((u : Int) == 69) = false := by simp only [beq_eq_false_iff_ne, ne_eq]; omega
                    have v69 : ¬ (u : Int) = 69 := by omega
                    have HPT : Hid (pointB (bt t k) = false) := Lib.hid (by rw [HCB.out.2, point_up, hu, decide_eq_false h69, HC46.out]; rfl)
                    clear hu h69
                    go_wp2_with fail
                    refine KW.out.mono ?_
                    rintro e w1 ⟨rfl, rfl⟩
                    go_wp2_with fail
                    refine KU.out.mono ?_
                    rintro e w1 ⟨rfl, rfl⟩
                    go_wp2
                    go_roundw
                    case rel => first | exact ⟨k + 1, by rw [kindTo_no HPT.out, HK.out], by rw [HJ1.out]; first | done | rfl, by have := HKT.out; omega, by first | rfl | trivial, by rw [← HR.out]; exact (run_step HKT.out HNP.out).symm⟩ | ((repeat apply Exists.intro); exact ⟨⟨k + 1, by rw [kindTo_no HPT.out, HK.out], by rw [HJ1.out]; first | done | rfl, by have := HKT.out; omega, by first | rfl | trivial, by rw [← HR.out]; exact (run_step HKT.out HNP.out).symm⟩, rfl⟩)
                    case measure => simp [intOf]; omega
                · go_wp2_with fail
                  refine KW.out.mono ?_
                  rintro e w1 ⟨rfl, rfl⟩
                  go_wp2
                  go_roundw
                  case rel => first | exact ⟨k + 1, by rw [kindTo_based HO.out, ← kindTo_based HO.out k, HK.out], by rw [HJ1.out]; first | done | rfl, by have := HKT.out; omega, by first | rfl | trivial, by rw [← HR.out]; exact (run_step HKT.out HNP.out).symm⟩ | ((repeat apply Exists.intro); exact ⟨⟨k + 1, by rw [kindTo_based HO.out, ← kindTo_based HO.out k, HK.out], by rw [HJ1.out]; first | done | rfl, by have := HKT.out; omega, by first | rfl | trivial, by rw [← HR.out]; exact (run_step HKT.out HNP.out).symm⟩, rfl⟩)
                  case measure => simp [intOf]; omega
          · have z1 : (i : Int) < (j : Int) := by have := HJ.out; omega
            have z2 : IntKind.i64.wrap ((j : Int) - 1) = ((j - 1 : Nat) : Int) := by rw [IntKind.wrap_i64]; have := HS.out; omega
            have z3 : ((j - 1 : Nat) : Int) < (s.size : Int) := by omega
            have gp := bt_get s (i := j - 1) (by omega)
            obtain ⟨p, hp⟩ : ∃ p, bt s (j - 1) = p := ⟨_, rfl⟩
            rw [hp] at gp
            have hpt : bt t (k - 1) = p := by rw [HT.out.2, show i + (k - 1) = j - 1 by have := HJ.out; omega]; exact hp
            obtain ⟨pu, hpu⟩ : ∃ pu, upB5 p = pu := ⟨_, rfl⟩
            have KP := Lib.hid (upper_is (v := pu) wr (by rw [← hp]; exact bt_lt s _) hpu)
            have hEE : eB t k = (decide (pu = 69) && !decide (V = 88)) := by
              unfold eB
              rw [decide_eq_true (show 0 < k by omega), Bool.true_and, hpt, HX.out]
              congr 1
              rw [Bool.eq_iff_iff, Bool.or_eq_true, decide_eq_true_iff, decide_eq_true_iff, decide_eq_true_iff, ← hpu, up_is (k := 69) (by decide) (by decide)]
              omega
            clear hp hpt hpu hk0
            by_cases hp69 : pu = 69
            · have w1 : ((pu : Int) == 69) = true := by simp [hp69]
              have w2 : (pu : Int) = 69 := by omega
              by_cases h88 : V = 88
              · have y1 : ((V : Int) != 88) = false := by simp [h88]
                have y3 : ((V : Int) == 88) = true := by simp [h88]
                have HE : Hid (eB t k = false) := Lib.hid (by rw [hEE, h88]; simp)
                clear hEE hp69 h88
                by_cases h46 : c = 46
                · subst h46
                  obtain rfl : d = false := by rw [← HD.out]; decide
                  have HPT : Hid (pointB (bt t k) = true) := Lib.hid (by rw [HCB.out.2]; rfl)
                  have hnp : numP t k = true := by rw [numP_e, HCB.out.2]; simp
                  have HNP : Hid (numP t k = true) := Lib.hid hnp
                  clear hnp
                  cases ob
                  · go_wp2_with fail
                    refine KP.out.mono ?_
                    rintro e w1 ⟨rfl, rfl⟩
                    go_wp2_with fail
                    refine KW.out.mono ?_
                    rintro e w1 ⟨rfl, rfl⟩
                    go_wp2
                    go_roundw
                    case rel => first | exact ⟨k + 1, by rw [kindTo_pt HO.out HPT.out]; rfl, by rw [HJ1.out]; first | done | rfl, by have := HKT.out; omega, by first | rfl | trivial, by rw [← HR.out]; exact (run_step HKT.out HNP.out).symm⟩ | ((repeat apply Exists.intro); exact ⟨⟨k + 1, by rw [kindTo_pt HO.out HPT.out]; rfl, by rw [HJ1.out]; first | done | rfl, by have := HKT.out; omega, by first | rfl | trivial, by rw [← HR.out]; exact (run_step HKT.out HNP.out).symm⟩, rfl⟩)
                    case measure => simp [intOf]; omega
                  · go_wp2_with fail
                    refine KP.out.mono ?_
                    rintro e w1 ⟨rfl, rfl⟩
                    go_wp2_with fail
                    refine KW.out.mono ?_
                    rintro e w1 ⟨rfl, rfl⟩
                    go_wp2
                    go_roundw
                    case rel => first | exact ⟨k + 1, by rw [kindTo_based HO.out, ← kindTo_based HO.out k, HK.out], by rw [HJ1.out]; first | done | rfl, by have := HKT.out; omega, by first | rfl | trivial, by rw [← HR.out]; exact (run_step HKT.out HNP.out).symm⟩ | ((repeat apply Exists.intro); exact ⟨⟨k + 1, by rw [kindTo_based HO.out, ← kindTo_based HO.out k, HK.out], by rw [HJ1.out]; first | done | rfl, by have := HKT.out; omega, by first | rfl | trivial, by rw [← HR.out]; exact (run_step HKT.out HNP.out).symm⟩, rfl⟩)
                    case measure => simp [intOf]; omega
                · have n46 : ((c : Int) != 46) = true := by simp only [bne_iff_ne, ne_eq]; omega
                  have m46 : ¬ (c : Int) = 46 := by omega
                  have e46 : ((c : Int) == 46) = false := by simp only [beq_eq_false_iff_ne, ne_eq]; omega
                  have HC46 := Lib.hid (decide_eq_false h46)
                  cases d
                  · have hnp : numP t k = false := by rw [numP_e, HCB.out.2, HE.out, HC46.out, HD.out, Bool.and_false]; rfl
                    have hend : numEnd t = k := by
                      have h9 := HR.out
                      rw [run_not hnp] at h9
                      exact h9.symm
                    have HEND := Lib.hid hend
                    clear hend hnp
                    have d0 : wr.cell? ⟨w.heap.size, 0, none⟩ = some (.int .i64 0) := RES.out.cell 0
                    have f0 : wr.frozen? ⟨w.heap.size, 0, none⟩ = false := RES.out.frozen 0
                    have d1 : wr.cell? ⟨w.heap.size, 1, none⟩ = some (.int .i64 0) := RES.out.cell 1
                    have f1 : wr.frozen? ⟨w.heap.size, 1, none⟩ = false := RES.out.frozen 1
                    have d2 : wr.cell? ⟨w.heap.size, 2, none⟩ = some (.int .i64 0) := RES.out.cell 2
                    have f2 : wr.frozen? ⟨w.heap.size, 2, none⟩ = false := RES.out.frozen 2
                    have hlw : w.heap.size < wr.heap.size := RES.out.lt
                    have D := Lib.hid (And.intro (RES.out.put3 (.int .i64 (K : Int)) (.int .i64 (j : Int)) (.int .i64 0)) (bel_set3 (g := w.heap.size) HW.out (Nat.le_refl _) (.int .i64 (K : Int)) (.int .i64 (j : Int)) (.int .i64 0)))
                    go_wp2_with fail
                    refine KP.out.mono ?_
                    rintro e w1 ⟨rfl, rfl⟩
                    go_wp2_with fail
                    refine KW.out.mono ?_
                    rintro e w1 ⟨rfl, rfl⟩
                    go_wp2
                    refine bodyPost_ret (v := .agg #[.int .i64 (K : Int), .int .i64 (j : Int), .int .i64 0]) ?hrs2 rfl ?hRs2
                    case hRs2 => exact ⟨by rw [← kindTo_end, HEND.out, HK.out, HJ.out]; rfl, D.out.2⟩
                    case hrs2 => exact results_cell_row rfl _ _ w.heap.size 47 _ (0, 0) _ rfl D.out.1 Tryd.underlying47 rfl (by kernel_rfl)
                  · have hnp : numP t k = true := by rw [numP_e, HCB.out.2, HD.out]; simp
                    have HNP : Hid (numP t k = true) := Lib.hid hnp
                    clear hnp
                    cases ob
                    · obtain ⟨u, hu⟩ : ∃ u, upB5 c = u := ⟨_, rfl⟩
                      have KU := Lib.hid (upper_is (v := u) wr HCB.out.1 hu)
                      by_cases h69 : u = 69
                      · subst h69
                        have HPT : Hid (pointB (bt t k) = true) := Lib.hid (by rw [HCB.out.2, point_up, hu]; simp)
                        clear hu
                        go_wp2_with fail
                        refine KP.out.mono ?_
                        rintro e w1 ⟨rfl, rfl⟩
                        go_wp2_with fail
                        refine KW.out.mono ?_
                        rintro e w1 ⟨rfl, rfl⟩
                        go_wp2_with fail
                        refine KU.out.mono ?_
                        rintro e w1 ⟨rfl, rfl⟩
                        go_wp2
                        go_roundw
                        case rel => first | exact ⟨k + 1, by rw [kindTo_pt HO.out HPT.out]; rfl, by rw [HJ1.out]; first | done | rfl, by have := HKT.out; omega, by first | rfl | trivial, by rw [← HR.out]; exact (run_step HKT.out HNP.out).symm⟩ | ((repeat apply Exists.intro); exact ⟨⟨k + 1, by rw [kindTo_pt HO.out HPT.out]; rfl, by rw [HJ1.out]; first | done | rfl, by have := HKT.out; omega, by first | rfl | trivial, by rw [← HR.out]; exact (run_step HKT.out HNP.out).symm⟩, rfl⟩)
                        case measure => simp [intOf]; omega
                      · have u69 : ((u : Int) == 69) = false := by simp only [beq_eq_false_iff_ne, ne_eq]; omega
                        have v69 : ¬ (u : Int) = 69 := by omega
                        have HPT : Hid (pointB (bt t k) = false) := Lib.hid (by rw [HCB.out.2, point_up, hu, decide_eq_false h69, HC46.out]; rfl)
                        clear hu h69
                        go_wp2_with fail
                        refine KP.out.mono ?_
                        rintro e w1 ⟨rfl, rfl⟩
                        go_wp2_with fail
                        refine KW.out.mono ?_
                        rintro e w1 ⟨rfl, rfl⟩
                        go_wp2_with fail
                        refine KU.out.mono ?_
                        rintro e w1 ⟨rfl, rfl⟩
                        go_wp2
                        go_roundw
                        case rel => first | exact ⟨k + 1, by rw [kindTo_no HPT.out, HK.out], by rw [HJ1.out]; first | done | rfl, by have := HKT.out; omega, by first | rfl | trivial, by rw [← HR.out]; exact (run_step HKT.out HNP.out).symm⟩ | ((repeat apply Exists.intro); exact ⟨⟨k + 1, by rw [kindTo_no HPT.out, HK.out], by rw [HJ1.out]; first | done | rfl, by have := HKT.out; omega, by first | rfl | trivial, by rw [← HR.out]; exact (run_step HKT.out HNP.out).symm⟩, rfl⟩)
                        case measure => simp [intOf]; omega
                    · go_wp2_with fail
                      refine KP.out.mono ?_
                      rintro e w1 ⟨rfl, rfl⟩
                      go_wp2_with fail
                      refine KW.out.mono ?_
                      rintro e w1 ⟨rfl, rfl⟩
                      go_wp2
                      go_roundw
                      case rel => first | exact ⟨k + 1, by rw [kindTo_based HO.out, ← kindTo_based HO.out k, HK.out], by rw [HJ1.out]; first | done | rfl, by have := HKT.out; omega, by first | rfl | trivial, by rw [← HR.out]; exact (run_step HKT.out HNP.out).symm⟩ | ((repeat apply Exists.intro); exact ⟨⟨k + 1, by rw [kindTo_based HO.out, ← kindTo_based HO.out k, HK.out], by rw [HJ1.out]; first | done | rfl, by have := HKT.out; omega, by first | rfl | trivial, by rw [← HR.out]; exact (run_step HKT.out HNP.out).symm⟩, rfl⟩)
                      case measure => simp [intOf]; omega
              · have y1 : ((V : Int) != 88) = true := by simp only [bne_iff_ne, ne_eq]; omega
                have y2 : ¬ (V : Int) = 88 := by omega
                have y3 : ((V : Int) == 88) = false := by simp only [beq_eq_false_iff_ne, ne_eq]; omega
                have HE : Hid (eB t k = true) := Lib.hid (by rw [hEE, hp69, decide_eq_false h88]; rfl)
                clear hEE hp69 h88
                by_cases h46 : c = 46
                · subst h46
                  obtain rfl : d = false := by rw [← HD.out]; decide
                  have HPT : Hid (pointB (bt t k) = true) := Lib.hid (by rw [HCB.out.2]; rfl)
                  have hnp : numP t k = true := by rw [numP_e, HCB.out.2]; simp
                  have HNP : Hid (numP t k = true) := Lib.hid hnp
                  clear hnp
                  cases ob
                  · go_wp2_with fail
                    refine KP.out.mono ?_
                    rintro e w1 ⟨rfl, rfl⟩
                    go_wp2_with fail
                    refine KW.out.mono ?_
                    rintro e w1 ⟨rfl, rfl⟩
                    go_wp2
                    go_roundw
                    case rel => first | exact ⟨k + 1, by rw [kindTo_pt HO.out HPT.out]; rfl, by rw [HJ1.out]; first | done | rfl, by have := HKT.out; omega, by first | rfl | trivial, by rw [← HR.out]; exact (run_step HKT.out HNP.out).symm⟩ | ((repeat apply Exists.intro); exact ⟨⟨k + 1, by rw [kindTo_pt HO.out HPT.out]; rfl, by rw [HJ1.out]; first | done | rfl, by have := HKT.out; omega, by first | rfl | trivial, by rw [← HR.out]; exact (run_step HKT.out HNP.out).symm⟩, rfl⟩)
                    case measure => simp [intOf]; omega
                  · go_wp2_with fail
                    refine KP.out.mono ?_
                    rintro e w1 ⟨rfl, rfl⟩
                    go_wp2_with fail
                    refine KW.out.mono ?_
                    rintro e w1 ⟨rfl, rfl⟩
                    go_wp2
                    go_roundw
                    case rel => first | exact ⟨k + 1, by rw [kindTo_based HO.out, ← kindTo_based HO.out k, HK.out], by rw [HJ1.out]; first | done | rfl, by have := HKT.out; omega, by first | rfl | trivial, by rw [← HR.out]; exact (run_step HKT.out HNP.out).symm⟩ | ((repeat apply Exists.intro); exact ⟨⟨k + 1, by rw [kindTo_based HO.out, ← kindTo_based HO.out k, HK.out], by rw [HJ1.out]; first | done | rfl, by have := HKT.out; omega, by first | rfl | trivial, by rw [← HR.out]; exact (run_step HKT.out HNP.out).symm⟩, rfl⟩)
                    case measure => simp [intOf]; omega
                · have n46 : ((c : Int) != 46) = true := by simp only [bne_iff_ne, ne_eq]; omega
                  have m46 : ¬ (c : Int) = 46 := by omega
                  have e46 : ((c : Int) == 46) = false := by simp only [beq_eq_false_iff_ne, ne_eq]; omega
                  have HC46 := Lib.hid (decide_eq_false h46)
                  cases d
                  · by_cases h43 : c = 43
                    · have n43 : ((c : Int) == 43) = true := by simp [h43]
                      have hnp : numP t k = true := by rw [numP_e, HCB.out.2, HE.out, h43]; simp
                      clear h43
                      have HNP : Hid (numP t k = true) := Lib.hid hnp
                      clear hnp
                      cases ob
                      · obtain ⟨u, hu⟩ : ∃ u, upB5 c = u := ⟨_, rfl⟩
                        have KU := Lib.hid (upper_is (v := u) wr HCB.out.1 hu)
                        by_cases h69 : u = 69
                        · subst h69
                          have HPT : Hid (pointB (bt t k) = true) := Lib.hid (by rw [HCB.out.2, point_up, hu]; simp)
                          clear hu
                          go_wp2_with fail
                          refine KP.out.mono ?_
                          rintro e w1 ⟨rfl, rfl⟩
                          go_wp2_with fail
                          refine KW.out.mono ?_
                          rintro e w1 ⟨rfl, rfl⟩
                          go_wp2_with fail
                          refine KU.out.mono ?_
                          rintro e w1 ⟨rfl, rfl⟩
                          go_wp2
                          go_roundw
                          case rel => first | exact ⟨k + 1, by rw [kindTo_pt HO.out HPT.out]; rfl, by rw [HJ1.out]; first | done | rfl, by have := HKT.out; omega, by first | rfl | trivial, by rw [← HR.out]; exact (run_step HKT.out HNP.out).symm⟩ | ((repeat apply Exists.intro); exact ⟨⟨k + 1, by rw [kindTo_pt HO.out HPT.out]; rfl, by rw [HJ1.out]; first | done | rfl, by have := HKT.out; omega, by first | rfl | trivial, by rw [← HR.out]; exact (run_step HKT.out HNP.out).symm⟩, rfl⟩)
                          case measure => simp [intOf]; omega
                        · have u69 : ((u : Int) == 69) = false := by simp only [beq_eq_false_iff_ne, ne_eq]; omega
                          have v69 : ¬ (u : Int) = 69 := by omega
                          have HPT : Hid (pointB (bt t k) = false) := Lib.hid (by rw [HCB.out.2, point_up, hu, decide_eq_false h69, HC46.out]; rfl)
                          clear hu h69
                          go_wp2_with fail
                          refine KP.out.mono ?_
                          rintro e w1 ⟨rfl, rfl⟩
                          go_wp2_with fail
                          refine KW.out.mono ?_
                          rintro e w1 ⟨rfl, rfl⟩
                          go_wp2_with fail
                          refine KU.out.mono ?_
                          rintro e w1 ⟨rfl, rfl⟩
                          go_wp2
                          go_roundw
                          case rel => first | exact ⟨k + 1, by rw [kindTo_no HPT.out, HK.out], by rw [HJ1.out]; first | done | rfl, by have := HKT.out; omega, by first | rfl | trivial, by rw [← HR.out]; exact (run_step HKT.out HNP.out).symm⟩ | ((repeat apply Exists.intro); exact ⟨⟨k + 1, by rw [kindTo_no HPT.out, HK.out], by rw [HJ1.out]; first | done | rfl, by have := HKT.out; omega, by first | rfl | trivial, by rw [← HR.out]; exact (run_step HKT.out HNP.out).symm⟩, rfl⟩)
                          case measure => simp [intOf]; omega
                      · go_wp2_with fail
                        refine KP.out.mono ?_
                        rintro e w1 ⟨rfl, rfl⟩
                        go_wp2_with fail
                        refine KW.out.mono ?_
                        rintro e w1 ⟨rfl, rfl⟩
                        go_wp2
                        go_roundw
                        case rel => first | exact ⟨k + 1, by rw [kindTo_based HO.out, ← kindTo_based HO.out k, HK.out], by rw [HJ1.out]; first | done | rfl, by have := HKT.out; omega, by first | rfl | trivial, by rw [← HR.out]; exact (run_step HKT.out HNP.out).symm⟩ | ((repeat apply Exists.intro); exact ⟨⟨k + 1, by rw [kindTo_based HO.out, ← kindTo_based HO.out k, HK.out], by rw [HJ1.out]; first | done | rfl, by have := HKT.out; omega, by first | rfl | trivial, by rw [← HR.out]; exact (run_step HKT.out HNP.out).symm⟩, rfl⟩)
                        case measure => simp [intOf]; omega
                    · by_cases h45 : c = 45
                      · have n43 : ((c : Int) == 43) = false := by simp only [beq_eq_false_iff_ne, ne_eq]; omega
                        have m43 : ¬ (c : Int) = 43 := by omega
                        have n45 : ((c : Int) == 45) = true := by simp [h45]
                        have hnp : numP t k = true := by rw [numP_e, HCB.out.2, HE.out, h45]; simp
                        clear h45
                        have HNP : Hid (numP t k = true) := Lib.hid hnp
                        clear hnp
                        cases ob
                        · obtain ⟨u, hu⟩ : ∃ u, upB5 c = u := ⟨_, rfl⟩
                          have KU := Lib.hid (upper_is (v := u) wr HCB.out.1 hu)
                          by_cases h69 : u = 69
                          · subst h69
                            have HPT : Hid (pointB (bt t k) = true) := Lib.hid (by rw [HCB.out.2, point_up, hu]; simp)
                            clear hu
                            go_wp2_with fail
                            refine KP.out.mono ?_
                            rintro e w1 ⟨rfl, rfl⟩
                            go_wp2_with fail
                            refine KW.out.mono ?_
                            rintro e w1 ⟨rfl, rfl⟩
                            go_wp2_with fail
                            refine KU.out.mono ?_
                            rintro e w1 ⟨rfl, rfl⟩
                            go_wp2
                            go_roundw
                            case rel => first | exact ⟨k + 1, by rw [kindTo_pt HO.out HPT.out]; rfl, by rw [HJ1.out]; first | done | rfl, by have := HKT.out; omega, by first | rfl | trivial, by rw [← HR.out]; exact (run_step HKT.out HNP.out).symm⟩ | ((repeat apply Exists.intro); exact ⟨⟨k + 1, by rw [kindTo_pt HO.out HPT.out]; rfl, by rw [HJ1.out]; first | done | rfl, by have := HKT.out; omega, by first | rfl | trivial, by rw [← HR.out]; exact (run_step HKT.out HNP.out).symm⟩, rfl⟩)
                            case measure => simp [intOf]; omega
                          · have u69 : ((u : Int) == 69) = false := by simp only [beq_eq_false_iff_ne, ne_eq]; omega
                            have v69 : ¬ (u : Int) = 69 := by omega
                            have HPT : Hid (pointB (bt t k) = false) := Lib.hid (by rw [HCB.out.2, point_up, hu, decide_eq_false h69, HC46.out]; rfl)
                            clear hu h69
                            go_wp2_with fail
                            refine KP.out.mono ?_
                            rintro e w1 ⟨rfl, rfl⟩
                            go_wp2_with fail
                            refine KW.out.mono ?_
                            rintro e w1 ⟨rfl, rfl⟩
                            go_wp2_with fail
                            refine KU.out.mono ?_
                            rintro e w1 ⟨rfl, rfl⟩
                            go_wp2
                            go_roundw
                            case rel => first | exact ⟨k + 1, by rw [kindTo_no HPT.out, HK.out], by rw [HJ1.out]; first | done | rfl, by have := HKT.out; omega, by first | rfl | trivial, by rw [← HR.out]; exact (run_step HKT.out HNP.out).symm⟩ | ((repeat apply Exists.intro); exact ⟨⟨k + 1, by rw [kindTo_no HPT.out, HK.out], by rw [HJ1.out]; first | done | rfl, by have := HKT.out; omega, by first | rfl | trivial, by rw [← HR.out]; exact (run_step HKT.out HNP.out).symm⟩, rfl⟩)
                            case measure => simp [intOf]; omega
                        · go_wp2_with fail
                          refine KP.out.mono ?_
                          rintro e w1 ⟨rfl, rfl⟩
                          go_wp2_with fail
                          refine KW.out.mono ?_
                          rintro e w1 ⟨rfl, rfl⟩
                          go_wp2
                          go_roundw
                          case rel => first | exact ⟨k + 1, by rw [kindTo_based HO.out, ← kindTo_based HO.out k, HK.out], by rw [HJ1.out]; first | done | rfl, by have := HKT.out; omega, by first | rfl | trivial, by rw [← HR.out]; exact (run_step HKT.out HNP.out).symm⟩ | ((repeat apply Exists.intro); exact ⟨⟨k + 1, by rw [kindTo_based HO.out, ← kindTo_based HO.out k, HK.out], by rw [HJ1.out]; first | done | rfl, by have := HKT.out; omega, by first | rfl | trivial, by rw [← HR.out]; exact (run_step HKT.out HNP.out).symm⟩, rfl⟩)
                          case measure => simp [intOf]; omega
                      · have n43 : ((c : Int) == 43) = false := by simp only [beq_eq_false_iff_ne, ne_eq]; omega
                        have n45 : ((c : Int) == 45) = false := by simp only [beq_eq_false_iff_ne, ne_eq]; omega
                        have m43 : ¬ (c : Int) = 43 := by omega
                        have m45 : ¬ (c : Int) = 45 := by omega
                        have hnp : numP t k = false := by rw [numP_e, HCB.out.2, HE.out, HC46.out, HD.out, decide_eq_false h43, decide_eq_false h45]; rfl
                        have hend : numEnd t = k := by
                          have h9 := HR.out
                          rw [run_not hnp] at h9
                          exact h9.symm
                        have HEND := Lib.hid hend
                        clear hend hnp
                        have d0 : wr.cell? ⟨w.heap.size, 0, none⟩ = some (.int .i64 0) := RES.out.cell 0
                        have f0 : wr.frozen? ⟨w.heap.size, 0, none⟩ = false := RES.out.frozen 0
                        have d1 : wr.cell? ⟨w.heap.size, 1, none⟩ = some (.int .i64 0) := RES.out.cell 1
                        have f1 : wr.frozen? ⟨w.heap.size, 1, none⟩ = false := RES.out.frozen 1
                        have d2 : wr.cell? ⟨w.heap.size, 2, none⟩ = some (.int .i64 0) := RES.out.cell 2
                        have f2 : wr.frozen? ⟨w.heap.size, 2, none⟩ = false := RES.out.frozen 2
                        have hlw : w.heap.size < wr.heap.size := RES.out.lt
                        have D := Lib.hid (And.intro (RES.out.put3 (.int .i64 (K : Int)) (.int .i64 (j : Int)) (.int .i64 0)) (bel_set3 (g := w.heap.size) HW.out (Nat.le_refl _) (.int .i64 (K : Int)) (.int .i64 (j : Int)) (.int .i64 0)))
                        go_wp2_with fail
                        refine KP.out.mono ?_
                        rintro e w1 ⟨rfl, rfl⟩
                        go_wp2_with fail
                        refine KW.out.mono ?_
                        rintro e w1 ⟨rfl, rfl⟩
                        go_wp2
                        refine bodyPost_ret (v := .agg #[.int .i64 (K : Int), .int .i64 (j : Int), .int .i64 0]) ?hrs3 rfl ?hRs3
                        case hRs3 => exact ⟨by rw [← kindTo_end, HEND.out, HK.out, HJ.out]; rfl, D.out.2⟩
                        case hrs3 => exact results_cell_row rfl _ _ w.heap.size 47 _ (0, 0) _ rfl D.out.1 Tryd.underlying47 rfl (by kernel_rfl)
                  · have hnp : numP t k = true := by rw [numP_e, HCB.out.2, HD.out]; simp
                    have HNP : Hid (numP t k = true) := Lib.hid hnp
                    clear hnp
                    cases ob
                    · obtain ⟨u, hu⟩ : ∃ u, upB5 c = u := ⟨_, rfl⟩
                      have KU := Lib.hid (upper_is (v := u) wr HCB.out.1 hu)
                      by_cases h69 : u = 69
                      · subst h69
                        have HPT : Hid (pointB (bt t k) = true) := Lib.hid (by rw [HCB.out.2, point_up, hu]; simp)
                        clear hu
                        go_wp2_with fail
                        refine KP.out.mono ?_
                        rintro e w1 ⟨rfl, rfl⟩
                        go_wp2_with fail
                        refine KW.out.mono ?_
                        rintro e w1 ⟨rfl, rfl⟩
                        go_wp2_with fail
                        refine KU.out.mono ?_
                        rintro e w1 ⟨rfl, rfl⟩
                        go_wp2
                        go_roundw
                        case rel => first | exact ⟨k + 1, by rw [kindTo_pt HO.out HPT.out]; rfl, by rw [HJ1.out]; first | done | rfl, by have := HKT.out; omega, by first | rfl | trivial, by rw [← HR.out]; exact (run_step HKT.out HNP.out).symm⟩ | ((repeat apply Exists.intro); exact ⟨⟨k + 1, by rw [kindTo_pt HO.out HPT.out]; rfl, by rw [HJ1.out]; first | done | rfl, by have := HKT.out; omega, by first | rfl | trivial, by rw [← HR.out]; exact (run_step HKT.out HNP.out).symm⟩, rfl⟩)
                        case measure => simp [intOf]; omega
                      · have u69 : ((u : Int) == 69) = false := by simp only [beq_eq_false_iff_ne, ne_eq]; omega
                        have v69 : ¬ (u : Int) = 69 := by omega
                        have HPT : Hid (pointB (bt t k) = false) := Lib.hid (by rw [HCB.out.2, point_up, hu, decide_eq_false h69, HC46.out]; rfl)
                        clear hu h69
                        go_wp2_with fail
                        refine KP.out.mono ?_
                        rintro e w1 ⟨rfl, rfl⟩
                        go_wp2_with fail
                        refine KW.out.mono ?_
                        rintro e w1 ⟨rfl, rfl⟩
                        go_wp2_with fail
                        refine KU.out.mono ?_
                        rintro e w1 ⟨rfl, rfl⟩
                        go_wp2
                        go_roundw
                        case rel => first | exact ⟨k + 1, by rw [kindTo_no HPT.out, HK.out], by rw [HJ1.out]; first | done | rfl, by have := HKT.out; omega, by first | rfl | trivial, by rw [← HR.out]; exact (run_step HKT.out HNP.out).symm⟩ | ((repeat apply Exists.intro); exact ⟨⟨k + 1, by rw [kindTo_no HPT.out, HK.out], by rw [HJ1.out]; first | done | rfl, by have := HKT.out; omega, by first | rfl | trivial, by rw [← HR.out]; exact (run_step HKT.out HNP.out).symm⟩, rfl⟩)
                        case measure => simp [intOf]; omega
                    · go_wp2_with fail
                      refine KP.out.mono ?_
                      rintro e w1 ⟨rfl, rfl⟩
                      go_wp2_with fail
                      refine KW.out.mono ?_
                      rintro e w1 ⟨rfl, rfl⟩
                      go_wp2
                      go_roundw
                      case rel => first | exact ⟨k + 1, by rw [kindTo_based HO.out, ← kindTo_based HO.out k, HK.out], by rw [HJ1.out]; first | done | rfl, by have := HKT.out; omega, by first | rfl | trivial, by rw [← HR.out]; exact (run_step HKT.out HNP.out).symm⟩ | ((repeat apply Exists.intro); exact ⟨⟨k + 1, by rw [kindTo_based HO.out, ← kindTo_based HO.out k, HK.out], by rw [HJ1.out]; first | done | rfl, by have := HKT.out; omega, by first | rfl | trivial, by rw [← HR.out]; exact (run_step HKT.out HNP.out).symm⟩, rfl⟩)
                      case measure => simp [intOf]; omega
            · have w1 : ((pu : Int) == 69) = false := by simp only [beq_eq_false_iff_ne, ne_eq]; omega
              have w2 : ¬ (pu : Int) = 69 := by omega
              have HE : Hid (eB t k = false) := Lib.hid (by rw [hEE, decide_eq_false hp69]; rfl)
              clear hEE hp69
              by_cases h46 : c = 46
              · subst h46
                obtain rfl : d = false := by rw [← HD.out]; decide
                have HPT : Hid (pointB (bt t k) = true) := Lib.hid (by rw [HCB.out.2]; rfl)
                have hnp : numP t k = true := by rw [numP_e, HCB.out.2]; simp
                have HNP : Hid (numP t k = true) := Lib.hid hnp
                clear hnp
                cases ob
                · go_wp2_with fail
                  refine KP.out.mono ?_
                  rintro e w1 ⟨rfl, rfl⟩
                  go_wp2_with fail
                  refine KW.out.mono ?_
                  rintro e w1 ⟨rfl, rfl⟩
                  go_wp2
                  go_roundw
                  case rel => first | exact ⟨k + 1, by rw [kindTo_pt HO.out HPT.out]; rfl, by rw [HJ1.out]; first | done | rfl, by have := HKT.out; omega, by first | rfl | trivial, by rw [← HR.out]; exact (run_step HKT.out HNP.out).symm⟩ | ((repeat apply Exists.intro); exact ⟨⟨k + 1, by rw [kindTo_pt HO.out HPT.out]; rfl, by rw [HJ1.out]; first | done | rfl, by have := HKT.out; omega, by first | rfl | trivial, by rw [← HR.out]; exact (run_step HKT.out HNP.out).symm⟩, rfl⟩)
                  case measure => simp [intOf]; omega
                · go_wp2_with fail
                  refine KP.out.mono ?_
                  rintro e w1 ⟨rfl, rfl⟩
                  go_wp2_with fail
                  refine KW.out.mono ?_
                  rintro e w1 ⟨rfl, rfl⟩
                  go_wp2
                  go_roundw
                  case rel => first | exact ⟨k + 1, by rw [kindTo_based HO.out, ← kindTo_based HO.out k, HK.out], by rw [HJ1.out]; first | done | rfl, by have := HKT.out; omega, by first | rfl | trivial, by rw [← HR.out]; exact (run_step HKT.out HNP.out).symm⟩ | ((repeat apply Exists.intro); exact ⟨⟨k + 1, by rw [kindTo_based HO.out, ← kindTo_based HO.out k, HK.out], by rw [HJ1.out]; first | done | rfl, by have := HKT.out; omega, by first | rfl | trivial, by rw [← HR.out]; exact (run_step HKT.out HNP.out).symm⟩, rfl⟩)
                  case measure => simp [intOf]; omega
              · have n46 : ((c : Int) != 46) = true := by simp only [bne_iff_ne, ne_eq]; omega
                have m46 : ¬ (c : Int) = 46 := by omega
                have e46 : ((c : Int) == 46) = false := by simp only [beq_eq_false_iff_ne, ne_eq]; omega
                have HC46 := Lib.hid (decide_eq_false h46)
                cases d
                · have hnp : numP t k = false := by rw [numP_e, HCB.out.2, HE.out, HC46.out, HD.out, Bool.and_false]; rfl
                  have hend : numEnd t = k := by
                    have h9 := HR.out
                    rw [run_not hnp] at h9
                    exact h9.symm
                  have HEND := Lib.hid hend
                  clear hend hnp
                  have d0 : wr.cell? ⟨w.heap.size, 0, none⟩ = some (.int .i64 0) := RES.out.cell 0
                  have f0 : wr.frozen? ⟨w.heap.size, 0, none⟩ = false := RES.out.frozen 0
                  have d1 : wr.cell? ⟨w.heap.size, 1, none⟩ = some (.int .i64 0) := RES.out.cell 1
                  have f1 : wr.frozen? ⟨w.heap.size, 1, none⟩ = false := RES.out.frozen 1
                  have d2 : wr.cell? ⟨w.heap.size, 2, none⟩ = some (.int .i64 0) := RES.out.cell 2
                  have f2 : wr.frozen? ⟨w.heap.size, 2, none⟩ = false := RES.out.frozen 2
                  have hlw : w.heap.size < wr.heap.size := RES.out.lt
                  have D := Lib.hid (And.intro (RES.out.put3 (.int .i64 (K : Int)) (.int .i64 (j : Int)) (.int .i64 0)) (bel_set3 (g := w.heap.size) HW.out (Nat.le_refl _) (.int .i64 (K : Int)) (.int .i64 (j : Int)) (.int .i64 0)))
                  go_wp2_with fail
                  refine KP.out.mono ?_
                  rintro e w1 ⟨rfl, rfl⟩
                  go_wp2_with fail
                  refine KW.out.mono ?_
                  rintro e w1 ⟨rfl, rfl⟩
                  go_wp2
                  refine bodyPost_ret (v := .agg #[.int .i64 (K : Int), .int .i64 (j : Int), .int .i64 0]) ?hrs4 rfl ?hRs4
                  case hRs4 => exact ⟨by rw [← kindTo_end, HEND.out, HK.out, HJ.out]; rfl, D.out.2⟩
                  case hrs4 => exact results_cell_row rfl _ _ w.heap.size 47 _ (0, 0) _ rfl D.out.1 Tryd.underlying47 rfl (by kernel_rfl)
                · have hnp : numP t k = true := by rw [numP_e, HCB.out.2, HD.out]; simp
                  have HNP : Hid (numP t k = true) := Lib.hid hnp
                  clear hnp
                  cases ob
                  · obtain ⟨u, hu⟩ : ∃ u, upB5 c = u := ⟨_, rfl⟩
                    have KU := Lib.hid (upper_is (v := u) wr HCB.out.1 hu)
                    by_cases h69 : u = 69
                    · subst h69
                      have HPT : Hid (pointB (bt t k) = true) := Lib.hid (by rw [HCB.out.2, point_up, hu]; simp)
                      clear hu
                      go_wp2_with fail
                      refine KP.out.mono ?_
                      rintro e w1 ⟨rfl, rfl⟩
                      go_wp2_with fail
                      refine KW.out.mono ?_
                      rintro e w1 ⟨rfl, rfl⟩
                      go_wp2_with fail
                      refine KU.out.mono ?_
                      rintro e w1 ⟨rfl, rfl⟩
                      go_wp2
                      go_roundw
                      case rel => first | exact ⟨k + 1, by rw [kindTo_pt HO.out HPT.out]; rfl, by rw [HJ1.out]; first | done | rfl, by have := HKT.out; omega, by first | rfl | trivial, by rw [← HR.out]; exact (run_step HKT.out HNP.out).symm⟩ | ((repeat apply Exists.intro); exact ⟨⟨k + 1, by rw [kindTo_pt HO.out HPT.out]; rfl, by rw [HJ1.out]; first | done | rfl, by have := HKT.out; omega, by first | rfl | trivial, by rw [← HR.out]; exact (run_step HKT.out HNP.out).symm⟩, rfl⟩)
                      case measure => simp [intOf]; omega
                    · have u69 : ((u : Int) == 69) = false := by simp only [beq_eq_false_iff_ne, ne_eq]; omega
                      have v69 : ¬ (u : Int) = 69 := by omega
                      have HPT : Hid (pointB (bt t k) = false) := Lib.hid (by rw [HCB.out.2, point_up, hu, decide_eq_false h69, HC46.out]; rfl)
                      clear hu h69
                      go_wp2_with fail
                      refine KP.out.mono ?_
                      rintro e w1 ⟨rfl, rfl⟩
                      go_wp2_with fail
                      refine KW.out.mono ?_
                      rintro e w1 ⟨rfl, rfl⟩
                      go_wp2_with fail
                      refine KU.out.mono ?_
                      rintro e w1 ⟨rfl, rfl⟩
                      go_wp2
                      go_roundw
                      case rel => first | exact ⟨k + 1, by rw [kindTo_no HPT.out, HK.out], by rw [HJ1.out]; first | done | rfl, by have := HKT.out; omega, by first | rfl | trivial, by rw [← HR.out]; exact (run_step HKT.out HNP.out).symm⟩ | ((repeat apply Exists.intro); exact ⟨⟨k + 1, by rw [kindTo_no HPT.out, HK.out], by rw [HJ1.out]; first | done | rfl, by have := HKT.out; omega, by first | rfl | trivial, by rw [← HR.out]; exact (run_step HKT.out HNP.out).symm⟩, rfl⟩)
                      case measure => simp [intOf]; omega
                  · go_wp2_with fail
                    refine KP.out.mono ?_
                    rintro e w1 ⟨rfl, rfl⟩
                    go_wp2_with fail
                    refine KW.out.mono ?_
                    rintro e w1 ⟨rfl, rfl⟩
                    go_wp2
                    go_roundw
                    case rel => first | exact ⟨k + 1, by rw [kindTo_based HO.out, ← kindTo_based HO.out k, HK.out], by rw [HJ1.out]; first | done | rfl, by have := HKT.out; omega, by first | rfl | trivial, by rw [← HR.out]; exact (run_step HKT.out HNP.out).symm⟩ | ((repeat apply Exists.intro); exact ⟨⟨k + 1, by rw [kindTo_based HO.out, ← kindTo_based HO.out k, HK.out], by rw [HJ1.out]; first | done | rfl, by have := HKT.out; omega, by first | rfl | trivial, by rw [← HR.out]; exact (run_step HKT.out HNP.out).symm⟩, rfl⟩)
                    case measure => simp [intOf]; omega
        · have hlt' : ¬ (j : Int) < (s.size : Int) := by omega
          have hend : numEnd t = k := by
            have h9 := HR.out
            rw [run_out (by have := HJ.out; have := HT.out.1; omega)] at h9
            exact h9.symm
          have HEND := Lib.hid hend
          clear hend
          have d0 : wr.cell? ⟨w.heap.size, 0, none⟩ = some (.int .i64 0) := RES.out.cell 0
          have f0 : wr.frozen? ⟨w.heap.size, 0, none⟩ = false := RES.out.frozen 0
          have d1 : wr.cell? ⟨w.heap.size, 1, none⟩ = some (.int .i64 0) := RES.out.cell 1
          have f1 : wr.frozen? ⟨w.heap.size, 1, none⟩ = false := RES.out.frozen 1
          have d2 : wr.cell? ⟨w.heap.size, 2, none⟩ = some (.int .i64 0) := RES.out.cell 2
          have f2 : wr.frozen? ⟨w.heap.size, 2, none⟩ = false := RES.out.frozen 2
          have hlw : w.heap.size < wr.heap.size := RES.out.lt
          have D := Lib.hid (And.intro (RES.out.put3 (.int .i64 (K : Int)) (.int .i64 (j : Int)) (.int .i64 0)) (bel_set3 (g := w.heap.size) HW.out (Nat.le_refl _) (.int .i64 (K : Int)) (.int .i64 (j : Int)) (.int .i64 0)))
          go_wp2
          refine bodyPost_ret (v := .agg #[.int .i64 (K : Int), .int .i64 (j : Int), .int .i64 0]) ?hrz rfl ?hRz
          case hRz => exact ⟨by rw [← kindTo_end, HEND.out, HK.out, HJ.out]; rfl, D.out.2⟩
          case hrz => exact results_cell_row rfl _ _ w.heap.size 47 _ (0, 0) _ rfl D.out.1 Tryd.underlying47 rfl (by kernel_rfl)
end Go.Proofs.YtkaafakodeeidaaDoor
