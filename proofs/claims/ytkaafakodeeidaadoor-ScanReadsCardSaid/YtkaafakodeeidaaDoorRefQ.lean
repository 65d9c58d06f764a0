/-
  Layer 5's reference: quoted texts; walked.
-/
import Derived.Test.YtkaafakodeeidaaDoorRefA
import Derived.BigQuiet
import Derived.Deep.Cut
namespace Go.Proofs.YtkaafakodeeidaaDoor
open Go.RowKit

/-- A quoted token. -/
def quoT (q i n : Nat) : Nat × Nat × Nat := if n = 0 then (0, 0, 5) else if q = 39 then (4, i + n, 0) else (5, i + n, 0)
set_option maxRecDepth 100000 in
set_option maxHeartbeats 2000000 in
theorem refQuoted_any (s : ByteArray) (i q : Nat) (w : World) (hs : s.size ≤ 100000) (hi : i < s.size) (hq : bt s i = q) (hq3 : q = 39 ∨ q = 34 ∨ q = 96) : Calls Tryd.prog 39 #[.string s, .int .i64 (i : Int)] w (RetT (quoT q i (quoEnd (tl s i) q 1)) w) := by
  have a0 : (i : Int) < (s.size : Int) := by omega
  have g0 := bt_get s (i := i) hi
  rw [hq] at g0
  obtain ⟨N, hN⟩ : ∃ N, quoEnd (tl s i) q 1 = N := ⟨_, rfl⟩
  rw [hN]
  have hT := tl_is s i
  have sI : IntKind.i64.wrap ((i : Int) + 1) = ((i + 1 : Nat) : Int) := by rw [IntKind.wrap_i64]; omega
  obtain ⟨t, ht⟩ : ∃ t, tl s i = t := ⟨_, rfl⟩
  rw [ht] at hN hT
  have HT := Lib.hid (And.intro hT (fun j => (by rw [← ht]; exact tl_bt s i j : bt t j = bt s (i + j))))
  have HS := Lib.hid hs
  have HN := Lib.hid hN
  have H3 := Lib.hid hq3
  clear hs hq hN hT ht hq3
  obtain ⟨wa, hwa⟩ : ∃ wa, wa = w.alloc (.cells #[.int .i64 0, .int .i64 0, .int .i64 0] 47) := ⟨_, rfl⟩
  have hbl : Below w.heap.size w wa := by rw [hwa]; exact bel_alloc (bel_refl _) _
  have RES : Blk wa w.heap.size 47 #[.int .i64 0, .int .i64 0, .int .i64 0] := by
    have hz := Blk.new w 47 #[.int .i64 0, .int .i64 0, .int .i64 0]
    rw [hwa]
    exact hz
  have HW := Lib.hid hbl; clear hbl
  replace RES := Lib.hid RES
  go_enter Tryd.func39, Tryd.ntmps39
  go_wp2_with fail
  rw [← hwa]
  clear hwa
  go_loopw [6] (fun ev wr => ∃ k : Nat, ev = .int .i64 ((i + k : Nat) : Int) ∧ 1 ≤ k ∧ k ≤ s.size + 1 ∧ wr = wa ∧ quoEnd t q k = N) (fun ev _ => 2 * s.size + 2 - (intOf ev).toNat)
  case atStart => exact ⟨1, rfl, Nat.le_refl _, by omega, rfl, HN.out⟩
  case round =>
    obtain ⟨k, rfl, hk1, hk2, rfl, hr⟩ := hrel
    have HR := Lib.hid hr; clear hr
    obtain ⟨j, hj⟩ : ∃ j, i + k = j := ⟨_, rfl⟩
    rw [hj]
    have HJ := Lib.hid hj; clear hj
    by_cases hlt : j < s.size
    · have hlt' : (j : Int) < (s.size : Int) := by omega
      have hge' : ¬ (s.size : Int) ≤ (j : Int) := by omega
      have g1 := bt_get s hlt
      obtain ⟨c, hc⟩ : ∃ c, bt s j = c := ⟨_, rfl⟩
      rw [hc] at g1
      have hkt : k < t.size := by have := HT.out.1; have := HJ.out; omega
      have hct : bt t k = c := by rw [HT.out.2, HJ.out]; exact hc
      have HCT := Lib.hid (And.intro hct (And.intro hkt hc)); clear hct hkt hc
      have s1 : IntKind.i64.wrap ((j : Int) + 1) = ((j + 1 : Nat) : Int) := by rw [IntKind.wrap_i64]; have := HS.out; omega
      by_cases hcq : c = q
      · have hn : N = k + 1 := by rw [← HR.out]; exact quoEnd_hit HCT.out.2.1 (HCT.out.1.trans hcq)
        have q1 : ((c : Int) == (q : Int)) = true := by simp [hcq]
        have q2 : (c : Int) = (q : Int) := by omega
        have hnj : j + 1 = i + N := by have := HJ.out; omega
        have HNK := Lib.hid (And.intro hn hnj); clear hn hnj
        by_cases h39 : q = 39
        · have q3 : ((q : Int) == 39) = true := by simp [h39]
          have q4 : (q : Int) = 39 := by omega
          have H39 := Lib.hid h39; clear h39 hcq
          have d0 : wr.cell? ⟨w.heap.size, 0, none⟩ = some (.int .i64 0) := RES.out.cell 0
          have f0 : wr.frozen? ⟨w.heap.size, 0, none⟩ = false := RES.out.frozen 0
          have d1 : wr.cell? ⟨w.heap.size, 1, none⟩ = some (.int .i64 0) := RES.out.cell 1
          have f1 : wr.frozen? ⟨w.heap.size, 1, none⟩ = false := RES.out.frozen 1
          have d2 : wr.cell? ⟨w.heap.size, 2, none⟩ = some (.int .i64 0) := RES.out.cell 2
          have f2 : wr.frozen? ⟨w.heap.size, 2, none⟩ = false := RES.out.frozen 2
          have hlw : w.heap.size < wr.heap.size := RES.out.lt
          have D := Lib.hid (And.intro (RES.out.put3 (.int .i64 4) (.int .i64 ((j + 1 : Nat) : Int)) (.int .i64 0)) (bel_set3 (g := w.heap.size) HW.out (Nat.le_refl _) (.int .i64 4) (.int .i64 ((j + 1 : Nat) : Int)) (.int .i64 0)))
          go_wp2
          refine bodyPost_ret (v := .agg #[.int .i64 4, .int .i64 ((j + 1 : Nat) : Int), .int .i64 0]) ?hr rfl ?hR
          case hR => exact ⟨by unfold quoT; rw [if_neg (by have := HNK.out.1; omega), if_pos H39.out, ← HNK.out.2]; rfl, D.out.2⟩
          case hr => exact results_cell_row rfl _ _ w.heap.size 47 _ (0, 0) _ rfl D.out.1 Tryd.underlying47 rfl (by kernel_rfl)
        · have q3 : ((q : Int) == 39) = false := by simp only [beq_eq_false_iff_ne, ne_eq]; omega
          have q4 : ¬ (q : Int) = 39 := by omega
          have H39 := Lib.hid h39; clear h39 hcq
          have d0 : wr.cell? ⟨w.heap.size, 0, none⟩ = some (.int .i64 0) := RES.out.cell 0
          have f0 : wr.frozen? ⟨w.heap.size, 0, none⟩ = false := RES.out.frozen 0
          have d1 : wr.cell? ⟨w.heap.size, 1, none⟩ = some (.int .i64 0) := RES.out.cell 1
          have f1 : wr.frozen? ⟨w.heap.size, 1, none⟩ = false := RES.out.frozen 1
          have d2 : wr.cell? ⟨w.heap.size, 2, none⟩ = some (.int .i64 0) := RES.out.cell 2
          have f2 : wr.frozen? ⟨w.heap.size, 2, none⟩ = false := RES.out.frozen 2
          have hlw : w.heap.size < wr.heap.size := RES.out.lt
          have D := Lib.hid (And.intro (RES.out.put3 (.int .i64 5) (.int .i64 ((j + 1 : Nat) : Int)) (.int .i64 0)) (bel_set3 (g := w.heap.size) HW.out (Nat.le_refl _) (.int .i64 5) (.int .i64 ((j + 1 : Nat) : Int)) (.int .i64 0)))
          go_wp2
          refine bodyPost_ret (v := .agg #[.int .i64 5, .int .i64 ((j + 1 : Nat) : Int), .int .i64 0]) ?hr2 rfl ?hR2
          case hR2 => exact ⟨by unfold quoT; rw [if_neg (by have := HNK.out.1; omega), if_neg H39.out, ← HNK.out.2]; rfl, D.out.2⟩
          case hr2 => exact results_cell_row rfl _ _ w.heap.size 47 _ (0, 0) _ rfl D.out.1 Tryd.underlying47 rfl (by kernel_rfl)
      · have q1 : ((c : Int) == (q : Int)) = false := by simp only [beq_eq_false_iff_ne, ne_eq]; omega
        have q2 : ¬ (c : Int) = (q : Int) := by omega
        have HQ : Hid (bt t k ≠ q) := Lib.hid (by rw [HCT.out.1]; exact hcq)
        have HJ1 : Hid (i + (k + 1) = j + 1) := Lib.hid (by have := HJ.out; omega)
        by_cases h96 : q = 96
        · have q3 : ((q : Int) == 96) = true := by simp [h96]
          have q4 : (q : Int) = 96 := by omega
          have H96 := Lib.hid h96; clear h96 hcq
          go_wp2
          go_roundw
          case rel => exact ⟨k + 1, by rw [HJ1.out]; first | done | rfl, by omega, by have := HJ.out; omega, by first | rfl | trivial, by rw [← HR.out]; exact (quoEnd_next HCT.out.2.1 HQ.out (.inl H96.out)).symm⟩
          case measure => simp [intOf]; omega
        · have q3 : ((q : Int) == 96) = false := by simp only [beq_eq_false_iff_ne, ne_eq]; omega
          have q4 : ¬ (q : Int) = 96 := by omega
          have H96 := Lib.hid h96
          by_cases h92 : c = 92
          · have q5 : ((c : Int) == 92) = true := by simp [h92]
            have q6 : (c : Int) = 92 := by omega
            have hstep : N = if k + 1 < t.size ∧ bt t (k + 1) = 10 then 0 else quoEnd t q (k + 2) := by rw [← HR.out]; exact quoEnd_esc HCT.out.2.1 HQ.out H96.out (HCT.out.1.trans h92)
            have HST := Lib.hid hstep
            clear hstep hcq h96 h92
            obtain ⟨j1, hj1⟩ : ∃ j1, j + 1 = j1 := ⟨_, rfl⟩
            rw [hj1] at s1
            obtain ⟨c1, hc1⟩ : ∃ c1, bt s j1 = c1 := ⟨_, rfl⟩
            have KA := Lib.hid (at_is s j1 wr hc1)
            have s2 : IntKind.i64.wrap ((j1 : Int) + 1) = ((j1 + 1 : Nat) : Int) := by rw [IntKind.wrap_i64]; have := HS.out; omega
            have HC1 : Hid (bt t (k + 1) = c1 ∧ i + (k + 1) = j1) := Lib.hid ⟨by rw [HT.out.2, ← hc1]; congr 1; have := HJ.out; omega, by have := HJ.out; omega⟩
            have HJ2 := Lib.hid (And.intro hj1 hlt); clear hc1 hj1
            by_cases h10 : c1 = 10
            · have q7 : ((c1 : Int) == 10) = true := by simp [h10]
              have q8 : (c1 : Int) = 10 := by omega
              have hk1' : k + 1 < t.size := by
                rcases Nat.lt_or_ge (k + 1) t.size with h | h
                · exact h
                · have h2 := HC1.out.1
                  rw [bt_none t (by omega), h10] at h2
                  cases h2
              have hn0 : N = 0 := by rw [HST.out, if_pos ⟨hk1', HC1.out.1.trans h10⟩]
              clear hk1'
              have HN0 := Lib.hid hn0; clear hn0 h10
              have d0 : wr.cell? ⟨w.heap.size, 0, none⟩ = some (.int .i64 0) := RES.out.cell 0
              have f0 : wr.frozen? ⟨w.heap.size, 0, none⟩ = false := RES.out.frozen 0
              have d1 : wr.cell? ⟨w.heap.size, 1, none⟩ = some (.int .i64 0) := RES.out.cell 1
              have f1 : wr.frozen? ⟨w.heap.size, 1, none⟩ = false := RES.out.frozen 1
              have d2 : wr.cell? ⟨w.heap.size, 2, none⟩ = some (.int .i64 0) := RES.out.cell 2
              have f2 : wr.frozen? ⟨w.heap.size, 2, none⟩ = false := RES.out.frozen 2
              have hlw : w.heap.size < wr.heap.size := RES.out.lt
              have D := Lib.hid (And.intro (RES.out.put3 (.int .i64 0) (.int .i64 0) (.int .i64 5)) (bel_set3 (g := w.heap.size) HW.out (Nat.le_refl _) (.int .i64 0) (.int .i64 0) (.int .i64 5)))
              go_wp2_with fail
              refine KA.out.mono ?_
              rintro e w1 ⟨rfl, rfl⟩
              go_wp2
              refine bodyPost_ret (v := .agg #[.int .i64 0, .int .i64 0, .int .i64 5]) ?hr3 rfl ?hR3
              case hR3 => exact ⟨by unfold quoT; rw [if_pos HN0.out]; rfl, D.out.2⟩
              case hr3 => exact results_cell_row rfl _ _ w.heap.size 47 _ (0, 0) _ rfl D.out.1 Tryd.underlying47 rfl (by kernel_rfl)
            · have q7 : ((c1 : Int) == 10) = false := by simp only [beq_eq_false_iff_ne, ne_eq]; omega
              have q8 : ¬ (c1 : Int) = 10 := by omega
              have hn2 : quoEnd t q (k + 2) = N := by rw [HST.out, if_neg (fun h => h10 (HC1.out.1.symm.trans h.2))]
              have HN2 := Lib.hid hn2; clear hn2 h10
              have HJ3 : Hid (i + (k + 2) = j1 + 1) := Lib.hid (by have := HC1.out.2; omega)
              go_wp2_with fail
              refine KA.out.mono ?_
              rintro e w1 ⟨rfl, rfl⟩
              go_wp2
              go_roundw
              case rel => exact ⟨k + 2, by rw [HJ3.out]; first | done | rfl, by omega, by have := HJ.out; have := HT.out.1; have := HCT.out.2.1; omega, by first | rfl | trivial, HN2.out⟩
              case measure => have := HJ2.out; simp [intOf]; omega
          · have q5 : ((c : Int) == 92) = false := by simp only [beq_eq_false_iff_ne, ne_eq]; omega
            have q6 : ¬ (c : Int) = 92 := by omega
            have H92 : Hid (bt t k ≠ 92) := Lib.hid (by rw [HCT.out.1]; exact h92)
            have KA := Lib.hid (at_is s j wr HCT.out.2.2)
            clear hcq h92 h96
            by_cases h10 : c = 10
            · have q7 : ((c : Int) == 10) = true := by simp [h10]
              have q8 : (c : Int) = 10 := by omega
              have hn0 : N = 0 := by rw [← HR.out]; exact quoEnd_line HCT.out.2.1 HQ.out H96.out (HCT.out.1.trans h10)
              have HN0 := Lib.hid hn0; clear hn0 h10
              have d0 : wr.cell? ⟨w.heap.size, 0, none⟩ = some (.int .i64 0) := RES.out.cell 0
              have f0 : wr.frozen? ⟨w.heap.size, 0, none⟩ = false := RES.out.frozen 0
              have d1 : wr.cell? ⟨w.heap.size, 1, none⟩ = some (.int .i64 0) := RES.out.cell 1
              have f1 : wr.frozen? ⟨w.heap.size, 1, none⟩ = false := RES.out.frozen 1
              have d2 : wr.cell? ⟨w.heap.size, 2, none⟩ = some (.int .i64 0) := RES.out.cell 2
              have f2 : wr.frozen? ⟨w.heap.size, 2, none⟩ = false := RES.out.frozen 2
              have hlw : w.heap.size < wr.heap.size := RES.out.lt
              have D := Lib.hid (And.intro (RES.out.put3 (.int .i64 0) (.int .i64 0) (.int .i64 5)) (bel_set3 (g := w.heap.size) HW.out (Nat.le_refl _) (.int .i64 0) (.int .i64 0) (.int .i64 5)))
              go_wp2_with fail
              refine KA.out.mono ?_
              rintro e w1 ⟨rfl, rfl⟩
              go_wp2
              refine bodyPost_ret (v := .agg #[.int .i64 0, .int .i64 0, .int .i64 5]) ?hr4 rfl ?hR4
              case hR4 => exact ⟨by unfold quoT; rw [if_pos HN0.out]; rfl, D.out.2⟩
              case hr4 => exact results_cell_row rfl _ _ w.heap.size 47 _ (0, 0) _ rfl D.out.1 Tryd.underlying47 rfl (by kernel_rfl)
            · have q7 : ((c : Int) == 10) = false := by simp only [beq_eq_false_iff_ne, ne_eq]; omega
              have q8 : ¬ (c : Int) = 10 := by omega
              have hnx : quoEnd t q (k + 1) = N := by rw [← HR.out]; exact (quoEnd_next HCT.out.2.1 HQ.out (.inr ⟨by rw [HCT.out.1]; exact h10, H92.out⟩)).symm
              have HNX := Lib.hid hnx; clear hnx h10
              go_wp2_with fail
              refine KA.out.mono ?_
              rintro e w1 ⟨rfl, rfl⟩
              go_wp2
              go_roundw
              case rel => exact ⟨k + 1, by rw [HJ1.out]; first | done | rfl, by omega, by have := HJ.out; omega, by first | rfl | trivial, HNX.out⟩
              case measure => simp [intOf]; omega
    · have hlt' : ¬ (j : Int) < (s.size : Int) := by omega
      have hge' : (s.size : Int) ≤ (j : Int) := by omega
      have hn0 : N = 0 := by rw [← HR.out]; exact quoEnd_out (by have := HJ.out; have := HT.out.1; omega)
      have HN0 := Lib.hid hn0; clear hn0
      have d0 : wr.cell? ⟨w.heap.size, 0, none⟩ = some (.int .i64 0) := RES.out.cell 0
      have f0 : wr.frozen? ⟨w.heap.size, 0, none⟩ = false := RES.out.frozen 0
      have d1 : wr.cell? ⟨w.heap.size, 1, none⟩ = some (.int .i64 0) := RES.out.cell 1
      have f1 : wr.frozen? ⟨w.heap.size, 1, none⟩ = false := RES.out.frozen 1
      have d2 : wr.cell? ⟨w.heap.size, 2, none⟩ = some (.int .i64 0) := RES.out.cell 2
      have f2 : wr.frozen? ⟨w.heap.size, 2, none⟩ = false := RES.out.frozen 2
      have hlw : w.heap.size < wr.heap.size := RES.out.lt
      have D := Lib.hid (And.intro (RES.out.put3 (.int .i64 0) (.int .i64 0) (.int .i64 5)) (bel_set3 (g := w.heap.size) HW.out (Nat.le_refl _) (.int .i64 0) (.int .i64 0) (.int .i64 5)))
      go_wp2
      refine bodyPost_ret (v := .agg #[.int .i64 0, .int .i64 0, .int .i64 5]) ?hr5 rfl ?hR5
      case hR5 => exact ⟨by unfold quoT; rw [if_pos HN0.out]; rfl, D.out.2⟩
      case hr5 => exact results_cell_row rfl _ _ w.heap.size 47 _ (0, 0) _ rfl D.out.1 Tryd.underlying47 rfl (by kernel_rfl)
end Go.Proofs.YtkaafakodeeidaaDoor
