/-
  Layer 5's reference: blanks and comments; walked.
-/
import Derived.Test.YtkaafakodeeidaaDoorRefA
import Derived.BigQuiet
import Derived.Deep.Cut
namespace Go.Proofs.YtkaafakodeeidaaDoor
open Go.RowKit

/-- What is skipped, as the reference says it: its end, a new line, an error. -/
def skipAt (i : Nat) (t : ByteArray) : Nat × Bool × Nat := if skipN t < 0 then (0, false, 5) else (i + (skipN t).toNat, skipL t, 0)
def RetS (r : Nat × Bool × Nat) (w : World) (e : Ending) (w' : World) : Prop := e = .returned (.agg #[.int .i64 (r.1 : Int), .bool r.2.1, .int .i64 (r.2.2 : Int)]) ∧ Below w.heap.size w w'
theorem skip_at {i n : Nat} {t : ByteArray} {l : Bool} (h1 : skipN t = (n : Int)) (h2 : skipL t = l) : skipAt i t = (i + n, l, 0) := by
  unfold skipAt
  rw [h1, h2, if_neg (by omega)]
  rfl
theorem skip_blank {t : ByteArray} {b : Nat} (hb : bt t 0 = b) (h : b = 9 ∨ b = 13 ∨ b = 32) : skipN t = ((1 : Nat) : Int) ∧ skipL t = false := by
  unfold skipN skipL
  rw [hb, if_pos (by omega)]
  rcases h with h | h | h <;> (subst h; exact ⟨rfl, rfl⟩)
theorem skip_nl {t : ByteArray} (hb : bt t 0 = 10) : skipN t = ((1 : Nat) : Int) ∧ skipL t = true := by
  unfold skipN skipL
  rw [hb]
  exact ⟨rfl, rfl⟩
def lineTo (t : ByteArray) (k : Nat) : Bool := (List.range k).any fun j => decide (2 ≤ j) && decide (bt t j = 10)
theorem lineTo_step (t : ByteArray) {k : Nat} (h : 2 ≤ k) : lineTo t (k + 1) = (lineTo t k || decide (bt t k = 10)) := by
  unfold lineTo
  rw [List.range_succ, List.any_append]
  simp [h]
theorem lineTo_2 (t : ByteArray) : lineTo t 2 = false := rfl
theorem lineTo_end (t : ByteArray) : lineTo t (cmtEnd t) = cmtLine t := by
  rw [Bool.eq_iff_iff, line_in]
  unfold lineTo
  rw [List.any_eq_true]
  constructor
  · rintro ⟨j, h1, h2⟩
    rw [Bool.and_eq_true, decide_eq_true_iff, decide_eq_true_iff] at h2
    exact ⟨j, h2.1, List.mem_range.1 h1, h2.2⟩
  · rintro ⟨j, h1, h2, h3⟩
    exact ⟨j, List.mem_range.2 h2, by rw [decide_eq_true h1, decide_eq_true h3]; rfl⟩
theorem closeP_of (t : ByteArray) (k a b : Nat) (h1 : bt t k = a) (h2 : bt t (k + 1) = b) : closeP t k = !(decide (a = 42) && decide (b = 47)) := by unfold closeP; rw [h1, h2]
set_option maxRecDepth 100000 in
set_option maxHeartbeats 2000000 in
theorem refSkip_blank (s : ByteArray) (i : Nat) (w : World) (hs : s.size ≤ 100000) (hi : i < s.size) (b : Nat) (hb : bt s i = b) (h : b = 9 ∨ b = 13 ∨ b = 32) : Calls Tryd.prog 17 #[.string s, .int .i64 (i : Int)] w (RetS (i + 1, false, 0) w) := by
  have a0 : (i : Int) < (s.size : Int) := by omega
  have g0 := bt_get s (i := i) hi
  have sI : IntKind.i64.wrap ((i : Int) + 1) = ((i + 1 : Nat) : Int) := by rw [IntKind.wrap_i64]; omega
  have sI2 : IntKind.i64.wrap ((i : Int) + 2) = ((i + 2 : Nat) : Int) := by rw [IntKind.wrap_i64]; omega
  rw [hb] at g0
  obtain ⟨i1, hi1⟩ : ∃ i1, i + 1 = i1 := ⟨_, rfl⟩
  rw [hi1] at sI ⊢
  clear hi1
  rcases h with h | h | h
  · subst h
    clear hb
    have D := Lib.hid (And.intro (Blk.new w 44 #[.int .i64 (i1 : Int), .bool false, .int .i64 0]) (bel_alloc (bel_refl w) (.cells #[.int .i64 (i1 : Int), .bool false, .int .i64 0] 44)))
    go_enter Tryd.func17, Tryd.ntmps17
    go_wp2
    refine bodyPost_ret (v := .agg #[.int .i64 (i1 : Int), .bool false, .int .i64 0]) ?hr rfl ?hR
    case hR => exact ⟨rfl, D.out.2⟩
    case hr => exact results_cell_row rfl _ _ w.heap.size 44 _ (0, 0) _ rfl D.out.1 Tryd.underlying44 rfl (by kernel_rfl)
  · subst h
    clear hb
    have D := Lib.hid (And.intro (Blk.new w 44 #[.int .i64 (i1 : Int), .bool false, .int .i64 0]) (bel_alloc (bel_refl w) (.cells #[.int .i64 (i1 : Int), .bool false, .int .i64 0] 44)))
    go_enter Tryd.func17, Tryd.ntmps17
    go_wp2
    refine bodyPost_ret (v := .agg #[.int .i64 (i1 : Int), .bool false, .int .i64 0]) ?hr rfl ?hR
    case hR => exact ⟨rfl, D.out.2⟩
    case hr => exact results_cell_row rfl _ _ w.heap.size 44 _ (0, 0) _ rfl D.out.1 Tryd.underlying44 rfl (by kernel_rfl)
  · subst h
    clear hb
    have D := Lib.hid (And.intro (Blk.new w 44 #[.int .i64 (i1 : Int), .bool false, .int .i64 0]) (bel_alloc (bel_refl w) (.cells #[.int .i64 (i1 : Int), .bool false, .int .i64 0] 44)))
    go_enter Tryd.func17, Tryd.ntmps17
    go_wp2
    refine bodyPost_ret (v := .agg #[.int .i64 (i1 : Int), .bool false, .int .i64 0]) ?hr rfl ?hR
    case hR => exact ⟨rfl, D.out.2⟩
    case hr => exact results_cell_row rfl _ _ w.heap.size 44 _ (0, 0) _ rfl D.out.1 Tryd.underlying44 rfl (by kernel_rfl)
set_option maxRecDepth 100000 in
set_option maxHeartbeats 2000000 in
theorem refSkip_nl (s : ByteArray) (i : Nat) (w : World) (hs : s.size ≤ 100000) (hi : i < s.size) (hb : bt s i = 10) : Calls Tryd.prog 17 #[.string s, .int .i64 (i : Int)] w (RetS (i + 1, true, 0) w) := by
  have a0 : (i : Int) < (s.size : Int) := by omega
  have g0 := bt_get s (i := i) hi
  have sI : IntKind.i64.wrap ((i : Int) + 1) = ((i + 1 : Nat) : Int) := by rw [IntKind.wrap_i64]; omega
  have sI2 : IntKind.i64.wrap ((i : Int) + 2) = ((i + 2 : Nat) : Int) := by rw [IntKind.wrap_i64]; omega
  rw [hb] at g0
  obtain ⟨i1, hi1⟩ : ∃ i1, i + 1 = i1 := ⟨_, rfl⟩
  rw [hi1] at sI ⊢
  clear hi1
  clear hb
  have D := Lib.hid (And.intro (Blk.new w 44 #[.int .i64 (i1 : Int), .bool true, .int .i64 0]) (bel_alloc (bel_refl w) (.cells #[.int .i64 (i1 : Int), .bool true, .int .i64 0] 44)))
  go_enter Tryd.func17, Tryd.ntmps17
  go_wp2
  refine bodyPost_ret (v := .agg #[.int .i64 (i1 : Int), .bool true, .int .i64 0]) ?hr rfl ?hR
  case hR => exact ⟨rfl, D.out.2⟩
  case hr => exact results_cell_row rfl _ _ w.heap.size 44 _ (0, 0) _ rfl D.out.1 Tryd.underlying44 rfl (by kernel_rfl)
set_option maxRecDepth 100000 in
set_option maxHeartbeats 2000000 in
theorem refSkip_none (s : ByteArray) (i : Nat) (w : World) (hs : s.size ≤ 100000) (hi : i < s.size) (b : Nat) (hb : bt s i = b) (h : ¬ (b = 9 ∨ b = 13 ∨ b = 32 ∨ b = 10)) (h47 : b ≠ 47) : Calls Tryd.prog 17 #[.string s, .int .i64 (i : Int)] w (RetS (i, false, 0) w) := by
  have a0 : (i : Int) < (s.size : Int) := by omega
  have g0 := bt_get s (i := i) hi
  have sI : IntKind.i64.wrap ((i : Int) + 1) = ((i + 1 : Nat) : Int) := by rw [IntKind.wrap_i64]; omega
  have sI2 : IntKind.i64.wrap ((i : Int) + 2) = ((i + 2 : Nat) : Int) := by rw [IntKind.wrap_i64]; omega
  rw [hb] at g0
  have q9 : ((b : Int) == 9) = false := by simp only [beq_eq_false_iff_ne, ne_eq]; omega
  have p9 : ¬ (b : Int) = 9 := by omega
  have q13 : ((b : Int) == 13) = false := by simp only [beq_eq_false_iff_ne, ne_eq]; omega
  have p13 : ¬ (b : Int) = 13 := by omega
  have q32 : ((b : Int) == 32) = false := by simp only [beq_eq_false_iff_ne, ne_eq]; omega
  have p32 : ¬ (b : Int) = 32 := by omega
  have q10 : ((b : Int) == 10) = false := by simp only [beq_eq_false_iff_ne, ne_eq]; omega
  have p10 : ¬ (b : Int) = 10 := by omega
  have q47 : ((b : Int) == 47) = false := by simp only [beq_eq_false_iff_ne, ne_eq]; omega
  have p47 : ¬ (b : Int) = 47 := by omega
  have q : ((b : Int) != 47) = true := by simp only [bne_iff_ne, ne_eq]; omega
  clear hb h h47
  have D := Lib.hid (And.intro (Blk.new w 44 #[.int .i64 (i : Int), .bool false, .int .i64 0]) (bel_alloc (bel_refl w) (.cells #[.int .i64 (i : Int), .bool false, .int .i64 0] 44)))
  go_enter Tryd.func17, Tryd.ntmps17
  go_wp2
  refine bodyPost_ret (v := .agg #[.int .i64 (i : Int), .bool false, .int .i64 0]) ?hr rfl ?hR
  case hR => exact ⟨rfl, D.out.2⟩
  case hr => exact results_cell_row rfl _ _ w.heap.size 44 _ (0, 0) _ rfl D.out.1 Tryd.underlying44 rfl (by kernel_rfl)
set_option maxRecDepth 100000 in
set_option maxHeartbeats 2000000 in
theorem refSkip_slash (s : ByteArray) (i : Nat) (w : World) (hs : s.size ≤ 100000) (hi : i < s.size) (c : Nat) (hb : bt s i = 47) (hc : bt s (i + 1) = c) (h1 : c ≠ 47) (h2 : c ≠ 42) : Calls Tryd.prog 17 #[.string s, .int .i64 (i : Int)] w (RetS (i, false, 0) w) := by
  have a0 : (i : Int) < (s.size : Int) := by omega
  have g0 := bt_get s (i := i) hi
  have sI : IntKind.i64.wrap ((i : Int) + 1) = ((i + 1 : Nat) : Int) := by rw [IntKind.wrap_i64]; omega
  have sI2 : IntKind.i64.wrap ((i : Int) + 2) = ((i + 2 : Nat) : Int) := by rw [IntKind.wrap_i64]; omega
  rw [hb] at g0
  have KA := fun W => Lib.hid (at_is s (i + 1) W hc)
  have q47 : ((c : Int) == 47) = false := by simp only [beq_eq_false_iff_ne, ne_eq]; omega
  have p47 : ¬ (c : Int) = 47 := by omega
  have r47 : ((c : Int) != 47) = true := by simp only [bne_iff_ne, ne_eq]; omega
  have q42 : ((c : Int) == 42) = false := by simp only [beq_eq_false_iff_ne, ne_eq]; omega
  have p42 : ¬ (c : Int) = 42 := by omega
  have r42 : ((c : Int) != 42) = true := by simp only [bne_iff_ne, ne_eq]; omega
  clear hb hc h1 h2
  obtain ⟨wa, hwa⟩ : ∃ wa, wa = w.alloc (.cells #[.int .i64 0, .bool false, .int .i64 0] 44) := ⟨_, rfl⟩
  have hbl : Below w.heap.size w wa := by rw [hwa]; exact bel_alloc (bel_refl _) _
  have RES : Blk wa w.heap.size 44 #[.int .i64 0, .bool false, .int .i64 0] := by
    have hz := Blk.new w 44 #[.int .i64 0, .bool false, .int .i64 0]
    rw [hwa]
    exact hz
  have HW := Lib.hid hbl; clear hbl
  replace RES := Lib.hid RES
  go_enter Tryd.func17, Tryd.ntmps17
  go_wp2_with fail
  rw [← hwa]
  clear hwa
  refine (KA _).out.mono ?_
  rintro e w1 ⟨rfl, rfl⟩
  go_wp2_with fail
  refine (KA _).out.mono ?_
  rintro e w1 ⟨rfl, rfl⟩
  have d0 : w1.cell? ⟨w.heap.size, 0, none⟩ = some (.int .i64 0) := RES.out.cell 0
  have f0 : w1.frozen? ⟨w.heap.size, 0, none⟩ = false := RES.out.frozen 0
  have d1 : w1.cell? ⟨w.heap.size, 1, none⟩ = some (.bool false) := RES.out.cell 1
  have f1 : w1.frozen? ⟨w.heap.size, 1, none⟩ = false := RES.out.frozen 1
  have d2 : w1.cell? ⟨w.heap.size, 2, none⟩ = some (.int .i64 0) := RES.out.cell 2
  have f2 : w1.frozen? ⟨w.heap.size, 2, none⟩ = false := RES.out.frozen 2
  have hlw : w.heap.size < w1.heap.size := RES.out.lt
  have D := Lib.hid (And.intro (RES.out.put3 (.int .i64 (i : Int)) (.bool false) (.int .i64 0)) (bel_set3 (g := w.heap.size) HW.out (Nat.le_refl _) (.int .i64 (i : Int)) (.bool false) (.int .i64 0)))
  go_wp2
  refine bodyPost_ret (v := .agg #[.int .i64 (i : Int), .bool false, .int .i64 0]) ?hr rfl ?hR
  case hR => exact ⟨rfl, D.out.2⟩
  case hr => exact results_cell_row rfl _ _ w.heap.size 44 _ (0, 0) _ rfl D.out.1 Tryd.underlying44 rfl (by kernel_rfl)
set_option maxRecDepth 100000 in
set_option maxHeartbeats 2000000 in
theorem refSkip_line (s : ByteArray) (i : Nat) (w : World) (hs : s.size ≤ 100000) (hi : i < s.size) (hb : bt s i = 47) (hc : bt s (i + 1) = 47) : Calls Tryd.prog 17 #[.string s, .int .i64 (i : Int)] w (RetS (i + run (lineP (tl s i)) (tl s i).size 0, false, 0) w) := by
  have a0 : (i : Int) < (s.size : Int) := by omega
  have g0 := bt_get s (i := i) hi
  have sI : IntKind.i64.wrap ((i : Int) + 1) = ((i + 1 : Nat) : Int) := by rw [IntKind.wrap_i64]; omega
  have sI2 : IntKind.i64.wrap ((i : Int) + 2) = ((i + 2 : Nat) : Int) := by rw [IntKind.wrap_i64]; omega
  have hq : run (lineP s) s.size (i + 0) = i + run (lineP (tl s i)) (tl s i).size 0 := run_tl s i 0 (by omega) fun j _ => by unfold lineP; rw [tl_bt]
  rw [Nat.add_zero] at hq
  rw [← hq]
  have h1lt : i + 1 < s.size := by
    rcases Nat.lt_or_ge (i + 1) s.size with h | h
    · exact h
    · rw [bt_none s (by omega)] at hc; cases hc
  have hrun : run (lineP s) s.size i = run (lineP s) s.size (i + 2) := by
    rw [run_step hi (by unfold lineP; rw [hb]; rfl), run_step h1lt (by unfold lineP; rw [hc]; rfl)]
  have HRUN := Lib.hid hrun; clear hrun hq
  rw [hb] at g0
  have KA := fun W => Lib.hid (at_is s (i + 1) W hc)
  have HS := Lib.hid hs
  clear hb hc hs
  obtain ⟨wa, hwa⟩ : ∃ wa, wa = w.alloc (.cells #[.int .i64 0, .bool false, .int .i64 0] 44) := ⟨_, rfl⟩
  have hbl : Below w.heap.size w wa := by rw [hwa]; exact bel_alloc (bel_refl _) _
  have RES : Blk wa w.heap.size 44 #[.int .i64 0, .bool false, .int .i64 0] := by
    have hz := Blk.new w 44 #[.int .i64 0, .bool false, .int .i64 0]
    rw [hwa]
    exact hz
  have HW := Lib.hid hbl; clear hbl
  replace RES := Lib.hid RES
  go_enter Tryd.func17, Tryd.ntmps17
  go_wp2_with fail
  rw [← hwa]
  clear hwa
  refine (KA _).out.mono ?_
  rintro e w1 ⟨rfl, rfl⟩
  go_wp2_with fail
  go_loopw [6] (fun ev wr => ∃ j : Nat, ev = .int .i64 (j : Int) ∧ i ≤ j ∧ j ≤ s.size ∧ wr = w1 ∧ run (lineP s) s.size j = run (lineP s) s.size i) (fun ev _ => s.size - (intOf ev).toNat)
  case atStart => exact ⟨i + 2, rfl, by omega, by omega, rfl, HRUN.out.symm⟩
  case round =>
    obtain ⟨j, rfl, hij, hj, rfl, hr⟩ := hrel
    have HJ := Lib.hid hr; clear hr
    by_cases hlt : j < s.size
    · have hlt' : (j : Int) < (s.size : Int) := by omega
      have g1 := bt_get s hlt
      obtain ⟨c, hc⟩ : ∃ c, bt s j = c := ⟨_, rfl⟩
      rw [hc] at g1
      have HC := Lib.hid hc; clear hc
      by_cases h10 : c = 10
      · have hn : run (lineP s) s.size i = j := by
          rw [← HJ.out, run_not]
          unfold lineP
          rw [HC.out, h10]
          rfl
        have HN := Lib.hid hn; clear hn
        subst h10
        have d0 : wr.cell? ⟨w.heap.size, 0, none⟩ = some (.int .i64 0) := RES.out.cell 0
        have f0 : wr.frozen? ⟨w.heap.size, 0, none⟩ = false := RES.out.frozen 0
        have d1 : wr.cell? ⟨w.heap.size, 1, none⟩ = some (.bool false) := RES.out.cell 1
        have f1 : wr.frozen? ⟨w.heap.size, 1, none⟩ = false := RES.out.frozen 1
        have d2 : wr.cell? ⟨w.heap.size, 2, none⟩ = some (.int .i64 0) := RES.out.cell 2
        have f2 : wr.frozen? ⟨w.heap.size, 2, none⟩ = false := RES.out.frozen 2
        have hlw : w.heap.size < wr.heap.size := RES.out.lt
        have D := Lib.hid (And.intro (RES.out.put3 (.int .i64 (j : Int)) (.bool false) (.int .i64 0)) (bel_set3 (g := w.heap.size) HW.out (Nat.le_refl _) (.int .i64 (j : Int)) (.bool false) (.int .i64 0)))
        go_wp2
        refine bodyPost_ret (v := .agg #[.int .i64 (j : Int), .bool false, .int .i64 0]) ?hr rfl ?hR
        case hR => exact ⟨by rw [HN.out]; rfl, D.out.2⟩
        case hr => exact results_cell_row rfl _ _ w.heap.size 44 _ (0, 0) _ rfl D.out.1 Tryd.underlying44 rfl (by kernel_rfl)
      · have q1 : ((c : Int) != 10) = true := by simp only [bne_iff_ne, ne_eq]; omega
        have q2 : ¬ (c : Int) = 10 := by omega
        have q3 : ((c : Int) == 10) = false := by simp only [beq_eq_false_iff_ne, ne_eq]; omega
        have s1 : IntKind.i64.wrap ((j : Int) + 1) = ((j + 1 : Nat) : Int) := by rw [IntKind.wrap_i64]; have := HS.out; omega
        have H10 := Lib.hid h10; clear h10
        go_wp2
        go_roundw
        case rel => exact ⟨j + 1, rfl, by omega, by omega, by first | rfl | trivial, by
          rw [← HJ.out]
          refine (run_step hlt ?_).symm
          unfold lineP
          rw [HC.out]
          exact decide_eq_true H10.out⟩
        case measure => simp [intOf]; omega
    · have hlt' : ¬ (j : Int) < (s.size : Int) := by omega
      have hn : run (lineP s) s.size i = j := by rw [← HJ.out, run_out hlt]
      have HN := Lib.hid hn; clear hn
      have d0 : wr.cell? ⟨w.heap.size, 0, none⟩ = some (.int .i64 0) := RES.out.cell 0
      have f0 : wr.frozen? ⟨w.heap.size, 0, none⟩ = false := RES.out.frozen 0
      have d1 : wr.cell? ⟨w.heap.size, 1, none⟩ = some (.bool false) := RES.out.cell 1
      have f1 : wr.frozen? ⟨w.heap.size, 1, none⟩ = false := RES.out.frozen 1
      have d2 : wr.cell? ⟨w.heap.size, 2, none⟩ = some (.int .i64 0) := RES.out.cell 2
      have f2 : wr.frozen? ⟨w.heap.size, 2, none⟩ = false := RES.out.frozen 2
      have hlw : w.heap.size < wr.heap.size := RES.out.lt
      have D := Lib.hid (And.intro (RES.out.put3 (.int .i64 (j : Int)) (.bool false) (.int .i64 0)) (bel_set3 (g := w.heap.size) HW.out (Nat.le_refl _) (.int .i64 (j : Int)) (.bool false) (.int .i64 0)))
      go_wp2
      refine bodyPost_ret (v := .agg #[.int .i64 (j : Int), .bool false, .int .i64 0]) ?hr2 rfl ?hR2
      case hR2 => exact ⟨by rw [HN.out]; rfl, D.out.2⟩
      case hr2 => exact results_cell_row rfl _ _ w.heap.size 44 _ (0, 0) _ rfl D.out.1 Tryd.underlying44 rfl (by kernel_rfl)
structure CmR (w w1 wr : World) (t : ByteArray) (k : Nat) : Prop where
  old : Below w.heap.size w wr
  res : Blk wr w.heap.size 44 #[.int .i64 0, .bool false, .int .i64 0]
  out : Blk wr w1.heap.size 44 #[.int .i64 0, .bool (lineTo t k), .int .i64 0]
  left : run (closeP t) (t.size - 1) k = cmtEnd t
def cmtS (i : Nat) (t : ByteArray) : Nat × Bool × Nat := if cmtEnd t + 1 < t.size then (i + (cmtEnd t + 2), cmtLine t, 0) else (0, false, 5)
set_option maxRecDepth 100000 in
set_option maxHeartbeats 2000000 in
theorem refSkip_cmt (s : ByteArray) (i : Nat) (w : World) (hs : s.size ≤ 100000) (hi : i < s.size) (hb : bt s i = 47) (hc : bt s (i + 1) = 42) : Calls Tryd.prog 17 #[.string s, .int .i64 (i : Int)] w (RetS (cmtS i (tl s i)) w) := by
  have a0 : (i : Int) < (s.size : Int) := by omega
  have g0 := bt_get s (i := i) hi
  have sI : IntKind.i64.wrap ((i : Int) + 1) = ((i + 1 : Nat) : Int) := by rw [IntKind.wrap_i64]; omega
  have sI2 : IntKind.i64.wrap ((i : Int) + 2) = ((i + 2 : Nat) : Int) := by rw [IntKind.wrap_i64]; omega
  have hT := tl_is s i
  obtain ⟨t, ht⟩ : ∃ t, tl s i = t := ⟨_, rfl⟩
  rw [ht] at hT ⊢
  have HT := Lib.hid (And.intro hT (fun j => (by rw [← ht]; exact tl_bt s i j : bt t j = bt s (i + j))))
  obtain ⟨R, hR⟩ : ∃ R, cmtS i t = R := ⟨_, rfl⟩
  rw [hR]
  have HRS := Lib.hid hR; clear hR
  have h1lt : i + 1 < s.size := by
    rcases Nat.lt_or_ge (i + 1) s.size with h | h
    · exact h
    · rw [bt_none s (by omega)] at hc; cases hc
  have H1 := Lib.hid h1lt; clear h1lt
  rw [hb] at g0
  have KA := fun W => Lib.hid (at_is s (i + 1) W hc)
  have HS := Lib.hid hs
  clear hb hc hs ht hT
  obtain ⟨wa, hwa⟩ : ∃ wa, wa = w.alloc (.cells #[.int .i64 0, .bool false, .int .i64 0] 44) := ⟨_, rfl⟩
  have hbl : Below w.heap.size w wa := by rw [hwa]; exact bel_alloc (bel_refl _) _
  have RES : Blk wa w.heap.size 44 #[.int .i64 0, .bool false, .int .i64 0] := by
    have hz := Blk.new w 44 #[.int .i64 0, .bool false, .int .i64 0]
    rw [hwa]
    exact hz
  have HW := Lib.hid hbl; clear hbl
  replace RES := Lib.hid RES
  go_enter Tryd.func17, Tryd.ntmps17
  go_wp2_with fail
  rw [← hwa]
  clear hwa
  refine (KA _).out.mono ?_
  rintro e w1 ⟨rfl, rfl⟩
  go_wp2_with fail
  refine (KA _).out.mono ?_
  rintro e w1 ⟨rfl, rfl⟩
  obtain ⟨wb, hwb⟩ : ∃ wb, wb = w1.alloc (.cells #[.int .i64 0, .bool false, .int .i64 0] 44) := ⟨_, rfl⟩
  have hbl : Below w1.heap.size w1 wb := by rw [hwb]; exact bel_alloc (bel_refl _) _
  have OUT : Blk wb w1.heap.size 44 #[.int .i64 0, .bool false, .int .i64 0] := by
    have hz := Blk.new w1 44 #[.int .i64 0, .bool false, .int .i64 0]
    rw [hwb]
    exact hz
  have HLW := Lib.hid RES.out.lt
  replace RES := Lib.hid (RES.out.below hbl RES.out.lt)
  replace HW := Lib.hid (bel_trans HW.out hbl); clear hbl
  have HOUT := Lib.hid OUT; clear OUT
  go_wp2_with fail
  rw [← hwb]
  clear hwb
  go_loopw [6] (fun ev wr => ∃ k : Nat, ev = .int .i64 ((i + k : Nat) : Int) ∧ 2 ≤ k ∧ k ≤ s.size + 2 ∧ CmR w w1 wr t k) (fun ev _ => 2 * s.size + 4 - (intOf ev).toNat)
  case atStart => exact ⟨2, rfl, Nat.le_refl _, by omega, ⟨HW.out, RES.out, by rw [lineTo_2]; exact HOUT.out, rfl⟩⟩
  case round =>
    obtain ⟨k, rfl, hk1, hk2, hr⟩ := hrel
    clear RES HW HOUT
    have HR := Lib.hid hr; clear hr
    have RES := Lib.hid HR.out.res
    have HW := Lib.hid HR.out.old
    have HK2 := Lib.hid hk1
    obtain ⟨l, hl⟩ : ∃ l, lineTo t k = l := ⟨_, rfl⟩
    have O1 : wr.cell? ⟨w1.heap.size, 1, none⟩ = some (.bool l) := by rw [← hl]; exact HR.out.out.cell 1
    have F1 : wr.frozen? ⟨w1.heap.size, 1, none⟩ = false := HR.out.out.frozen 1
    have hlt1 : w1.heap.size < wr.heap.size := HR.out.out.lt
    have HL := Lib.hid hl
    obtain ⟨j, hj⟩ : ∃ j, i + k = j := ⟨_, rfl⟩
    rw [hj]
    have HJ := Lib.hid hj; clear hj hl
    have HJ1 : Hid (i + (k + 1) = j + 1) := Lib.hid (by have := HJ.out; omega)
    have s1 : IntKind.i64.wrap ((j : Int) + 1) = ((j + 1 : Nat) : Int) := by rw [IntKind.wrap_i64]; have := HS.out; have := HJ.out; omega
    by_cases hlt : j + 1 < s.size
    · have hlt' : ((j + 1 : Nat) : Int) < (s.size : Int) := by omega
      have hltj : (j : Int) < (s.size : Int) := by omega
      have hge' : ¬ (s.size : Int) ≤ ((j + 1 : Nat) : Int) := by omega
      obtain ⟨c, hc⟩ : ∃ c, bt s j = c := ⟨_, rfl⟩
      obtain ⟨d, hd⟩ : ∃ d, bt s (j + 1) = d := ⟨_, rfl⟩
      have hcp : closeP t k = !(decide (c = 42) && decide (d = 47)) := closeP_of t k c d (by rw [HT.out.2, HJ.out]; exact hc) (by rw [HT.out.2, HJ1.out]; exact hd)
      have HCT : Hid (bt t k = c ∧ True) := Lib.hid ⟨by rw [HT.out.2, HJ.out]; exact hc, trivial⟩
      have g1 := bt_get s (i := j) (by omega)
      rw [hc] at g1
      have hkt : k < t.size - 1 := by have := HJ.out; have := HT.out.1; omega
      have HKT := Lib.hid hkt
      obtain ⟨j1, hj1⟩ : ∃ j1, j + 1 = j1 := ⟨_, rfl⟩
      have g2 := bt_get s (i := j1) (by omega)
      rw [hj1] at hd hlt hlt' hge' s1 HJ1
      rw [hd] at g2
      clear hc hd hkt
      by_cases h42 : c = 42
      · have q1 : ((c : Int) != 42) = false := by simp [h42]
        have q2 : (c : Int) = 42 := by omega
        have q3 : ((c : Int) == 42) = true := by simp [h42]
        have n10 : ((c : Int) == 10) = false := by simp [h42]
        have m10 : ¬ (c : Int) = 10 := by omega
        have HC10 : Hid (decide (c = 10) = false) := Lib.hid (by rw [h42]; rfl)
        by_cases h47 : d = 47
        · have r1 : ((d : Int) != 47) = false := by simp [h47]
          have r2 : (d : Int) = 47 := by omega
          have r3 : ((d : Int) == 47) = true := by simp [h47]
          have hce : cmtEnd t = k := by rw [← HR.out.left, run_not (by rw [hcp, h42, h47]; rfl)]
          have hin : k + 1 < t.size := by have := HKT.out; omega
          have HE : Hid (R = (i + (k + 2), l, 0)) := Lib.hid (by rw [← HRS.out]; unfold cmtS; rw [← lineTo_end, hce, if_pos hin, HL.out])
          have s2 : IntKind.i64.wrap ((j : Int) + 2) = ((j + 2 : Nat) : Int) := by rw [IntKind.wrap_i64]; have := HS.out; have := HJ.out; omega
          obtain ⟨j2, hj2⟩ : ∃ j2, j + 2 = j2 := ⟨_, rfl⟩
          rw [hj2] at s2
          have HJ2 : Hid (i + (k + 2) = j2) := Lib.hid (by have := HJ.out; omega)
          have O0 : wr.cell? ⟨w1.heap.size, 0, none⟩ = some (.int .i64 0) := HR.out.out.cell 0 |>.trans rfl
          have F0 : wr.frozen? ⟨w1.heap.size, 0, none⟩ = false := HR.out.out.frozen 0
          have O2 : wr.cell? ⟨w1.heap.size, 2, none⟩ = some (.int .i64 0) := HR.out.out.cell 2 |>.trans rfl
          have hne : w.heap.size ≠ w1.heap.size := by have := HLW.out; omega
          have hne2 : w1.heap.size ≠ w.heap.size := by have := HLW.out; omega
          clear hcp hce hin h42 h47 hj2
          have d0 : wr.cell? ⟨w.heap.size, 0, none⟩ = some (.int .i64 0) := RES.out.cell 0
          have f0 : wr.frozen? ⟨w.heap.size, 0, none⟩ = false := RES.out.frozen 0
          have d1 : wr.cell? ⟨w.heap.size, 1, none⟩ = some (.bool false) := RES.out.cell 1
          have f1 : wr.frozen? ⟨w.heap.size, 1, none⟩ = false := RES.out.frozen 1
          have d2 : wr.cell? ⟨w.heap.size, 2, none⟩ = some (.int .i64 0) := RES.out.cell 2
          have f2 : wr.frozen? ⟨w.heap.size, 2, none⟩ = false := RES.out.frozen 2
          have hlw : w.heap.size < wr.heap.size := RES.out.lt
          have D := Lib.hid (And.intro ((RES.out.far hne (p := ⟨w1.heap.size, 0, none⟩) (.int .i64 (j2 : Int))).put3 (.int .i64 (j2 : Int)) (.bool l) (.int .i64 0)) (bel_set3 (g := w.heap.size) (HW.out.setCell (p := ⟨w1.heap.size, 0, none⟩) (show w.heap.size ≤ w1.heap.size by have := HLW.out; omega) (.int .i64 (j2 : Int))) (Nat.le_refl _) (.int .i64 (j2 : Int)) (.bool l) (.int .i64 0)))
          go_wp2
          refine bodyPost_ret (v := .agg #[.int .i64 (j2 : Int), .bool l, .int .i64 0]) ?hr7 rfl ?hR7
          case hR7 => exact ⟨by rw [HE.out, HJ2.out]; rfl, D.out.2⟩
          case hr7 => exact results_cell_row rfl _ _ w.heap.size 44 _ (0, 0) _ rfl D.out.1 Tryd.underlying44 rfl (by kernel_rfl)
        · have r1 : ((d : Int) != 47) = true := by simp only [bne_iff_ne, ne_eq]; omega
          have r2 : ¬ (d : Int) = 47 := by omega
          have r3 : ((d : Int) == 47) = false := by simp only [beq_eq_false_iff_ne, ne_eq]; omega
          have HCP : Hid (closeP t k = true) := Lib.hid (by rw [hcp, decide_eq_false h47, Bool.and_false]; rfl)
          clear hcp h42 h47
          cases l
          · go_wp2
            go_roundw
            case rel => exact ⟨k + 1, by rw [HJ1.out]; first | done | rfl, by omega, by have := HJ.out; omega, ⟨HR.out.old.setCell (by have := HLW.out; show w.heap.size ≤ w1.heap.size; omega) _, HR.out.res.far (by have := HLW.out; show w.heap.size ≠ w1.heap.size; omega) _, by have h9 := HR.out.out.put 1 (.bool false); rw [lineTo_step t HK2.out, HL.out, HCT.out.1]; first | exact h9 | (simp [HC10.out]; exact h9) | (rw [HC10.out]; exact h9), by rw [← HR.out.left]; exact (run_step (by have := HJ.out; have := HT.out.1; omega) HCP.out).symm⟩⟩
            case measure => simp [intOf]; omega
          · go_wp2
            go_roundw
            case rel => exact ⟨k + 1, by rw [HJ1.out]; first | done | rfl, by omega, by have := HJ.out; omega, ⟨HR.out.old.setCell (by have := HLW.out; show w.heap.size ≤ w1.heap.size; omega) _, HR.out.res.far (by have := HLW.out; show w.heap.size ≠ w1.heap.size; omega) _, by have h9 := HR.out.out.put 1 (.bool true); rw [lineTo_step t HK2.out, HL.out, HCT.out.1]; first | exact h9 | (simp [HC10.out]; exact h9) | (rw [HC10.out]; exact h9), by rw [← HR.out.left]; exact (run_step (by have := HJ.out; have := HT.out.1; omega) HCP.out).symm⟩⟩
            case measure => simp [intOf]; omega
      · have q1 : ((c : Int) != 42) = true := by simp only [bne_iff_ne, ne_eq]; omega
        have q2 : ¬ (c : Int) = 42 := by omega
        have q3 : ((c : Int) == 42) = false := by simp only [beq_eq_false_iff_ne, ne_eq]; omega
        have HCP : Hid (closeP t k = true) := Lib.hid (by rw [hcp, decide_eq_false h42, Bool.false_and]; rfl)
        by_cases h10 : c = 10
        · have n10 : ((c : Int) == 10) = true := by simp [h10]
          have m10 : (c : Int) = 10 := by omega
          have HC10 : Hid (decide (c = 10) = true) := Lib.hid (decide_eq_true h10)
          clear hcp h42 h10
          cases l
          · go_wp2
            go_roundw
            case rel => exact ⟨k + 1, by rw [HJ1.out]; first | done | rfl, by omega, by have := HJ.out; omega, ⟨HR.out.old.setCell (by have := HLW.out; show w.heap.size ≤ w1.heap.size; omega) _, HR.out.res.far (by have := HLW.out; show w.heap.size ≠ w1.heap.size; omega) _, by have h9 := HR.out.out.put 1 (.bool true); rw [lineTo_step t HK2.out, HL.out, HCT.out.1]; first | exact h9 | (simp [HC10.out]; exact h9) | (rw [HC10.out]; exact h9), by rw [← HR.out.left]; exact (run_step (by have := HJ.out; have := HT.out.1; omega) HCP.out).symm⟩⟩
            case measure => simp [intOf]; omega
          · go_wp2
            go_roundw
            case rel => exact ⟨k + 1, by rw [HJ1.out]; first | done | rfl, by omega, by have := HJ.out; omega, ⟨HR.out.old.setCell (by have := HLW.out; show w.heap.size ≤ w1.heap.size; omega) _, HR.out.res.far (by have := HLW.out; show w.heap.size ≠ w1.heap.size; omega) _, by have h9 := HR.out.out.put 1 (.bool true); rw [lineTo_step t HK2.out, HL.out, HCT.out.1]; first | exact h9 | (simp [HC10.out]; exact h9) | (rw [HC10.out]; exact h9), by rw [← HR.out.left]; exact (run_step (by have := HJ.out; have := HT.out.1; omega) HCP.out).symm⟩⟩
            case measure => simp [intOf]; omega
        · have n10 : ((c : Int) == 10) = false := by simp only [beq_eq_false_iff_ne, ne_eq]; omega
          have m10 : ¬ (c : Int) = 10 := by omega
          have HC10 : Hid (decide (c = 10) = false) := Lib.hid (decide_eq_false h10)
          clear hcp h42 h10
          cases l
          · go_wp2
            go_roundw
            case rel => exact ⟨k + 1, by rw [HJ1.out]; first | done | rfl, by omega, by have := HJ.out; omega, ⟨HR.out.old.setCell (by have := HLW.out; show w.heap.size ≤ w1.heap.size; omega) _, HR.out.res.far (by have := HLW.out; show w.heap.size ≠ w1.heap.size; omega) _, by have h9 := HR.out.out.put 1 (.bool false); rw [lineTo_step t HK2.out, HL.out, HCT.out.1]; first | exact h9 | (simp [HC10.out]; exact h9) | (rw [HC10.out]; exact h9), by rw [← HR.out.left]; exact (run_step (by have := HJ.out; have := HT.out.1; omega) HCP.out).symm⟩⟩
            case measure => simp [intOf]; omega
          · go_wp2
            go_roundw
            case rel => exact ⟨k + 1, by rw [HJ1.out]; first | done | rfl, by omega, by have := HJ.out; omega, ⟨HR.out.old.setCell (by have := HLW.out; show w.heap.size ≤ w1.heap.size; omega) _, HR.out.res.far (by have := HLW.out; show w.heap.size ≠ w1.heap.size; omega) _, by have h9 := HR.out.out.put 1 (.bool true); rw [lineTo_step t HK2.out, HL.out, HCT.out.1]; first | exact h9 | (simp [HC10.out]; exact h9) | (rw [HC10.out]; exact h9), by rw [← HR.out.left]; exact (run_step (by have := HJ.out; have := HT.out.1; omega) HCP.out).symm⟩⟩
            case measure => simp [intOf]; omega
    · have hlt' : ¬ ((j + 1 : Nat) : Int) < (s.size : Int) := by omega
      have hge' : (s.size : Int) ≤ ((j + 1 : Nat) : Int) := by omega
      have hce : cmtEnd t = k := by rw [← HR.out.left, run_out (by have := HJ.out; have := HT.out.1; omega)]
      have HE : Hid (R = (0, false, 5)) := Lib.hid (by rw [← HRS.out]; unfold cmtS; rw [hce, if_neg (by have := HJ.out; have := HT.out.1; omega)])
      clear hce
      have d0 : wr.cell? ⟨w.heap.size, 0, none⟩ = some (.int .i64 0) := RES.out.cell 0
      have f0 : wr.frozen? ⟨w.heap.size, 0, none⟩ = false := RES.out.frozen 0
      have d1 : wr.cell? ⟨w.heap.size, 1, none⟩ = some (.bool false) := RES.out.cell 1
      have f1 : wr.frozen? ⟨w.heap.size, 1, none⟩ = false := RES.out.frozen 1
      have d2 : wr.cell? ⟨w.heap.size, 2, none⟩ = some (.int .i64 0) := RES.out.cell 2
      have f2 : wr.frozen? ⟨w.heap.size, 2, none⟩ = false := RES.out.frozen 2
      have hlw : w.heap.size < wr.heap.size := RES.out.lt
      have D := Lib.hid (And.intro (RES.out.put3 (.int .i64 0) (.bool false) (.int .i64 5)) (bel_set3 (g := w.heap.size) HW.out (Nat.le_refl _) (.int .i64 0) (.bool false) (.int .i64 5)))
      go_wp2
      refine bodyPost_ret (v := .agg #[.int .i64 0, .bool false, .int .i64 5]) ?hr rfl ?hR
      case hR => exact ⟨by rw [HE.out]; rfl, D.out.2⟩
      case hr => exact results_cell_row rfl _ _ w.heap.size 44 _ (0, 0) _ rfl D.out.1 Tryd.underlying44 rfl (by kernel_rfl)
theorem refSkip_any (s : ByteArray) (i : Nat) (w : World) (hs : s.size ≤ 100000) (hi : i < s.size) : Calls Tryd.prog 17 #[.string s, .int .i64 (i : Int)] w (RetS (skipAt i (tl s i)) w) := by
  obtain ⟨b, hb⟩ : ∃ b, bt s i = b := ⟨_, rfl⟩
  obtain ⟨c, hc⟩ : ∃ c, bt s (i + 1) = c := ⟨_, rfl⟩
  have tb : bt (tl s i) 0 = b := by rw [tl_bt]; exact hb
  have tc : bt (tl s i) 1 = c := by rw [tl_bt]; exact hc
  by_cases h1 : b = 9 ∨ b = 13 ∨ b = 32
  · obtain ⟨x, y⟩ := skip_blank tb h1
    rw [skip_at x y]
    exact refSkip_blank s i w hs hi b hb h1
  · by_cases h10 : b = 10
    · obtain ⟨x, y⟩ := skip_nl (tb.trans h10)
      rw [skip_at x y]
      exact refSkip_nl s i w hs hi (hb.trans h10)
    · have hn : ¬ (b = 9 ∨ b = 13 ∨ b = 32 ∨ b = 10) := by omega
      by_cases h47 : b = 47
      · by_cases c47 : c = 47
        · obtain ⟨x, y⟩ := skip_line tb hn ⟨h47, tc.trans c47⟩
          rw [skip_at x y]
          exact refSkip_line s i w hs hi (hb.trans h47) (hc.trans c47)
        · by_cases c42 : c = 42
          · have he : skipAt i (tl s i) = cmtS i (tl s i) := by
              unfold cmtS
              by_cases hce : cmtEnd (tl s i) + 1 < (tl s i).size
              · obtain ⟨x, y⟩ := skip_shut tb hn ⟨h47, tc.trans c42⟩ hce
                rw [skip_at x y, if_pos hce]
              · obtain ⟨x, y⟩ := skip_open tb hn ⟨h47, tc.trans c42⟩ hce
                rw [if_neg hce]
                unfold skipAt
                rw [x, if_pos (by decide)]
            rw [he]
            exact refSkip_cmt s i w hs hi (hb.trans h47) (hc.trans c42)
          · obtain ⟨x, y⟩ := skip_none tb hn (by rw [tc]; exact fun h => c47 h.2) (by rw [tc]; exact fun h => c42 h.2)
            rw [skip_at (n := 0) x y]
            exact refSkip_slash s i w hs hi c (hb.trans h47) hc c47 c42
      · obtain ⟨x, y⟩ := skip_none tb hn (fun h => h47 h.1) (fun h => h47 h.1)
        rw [skip_at (n := 0) x y]
        exact refSkip_none s i w hs hi b hb hn h47
end Go.Proofs.YtkaafakodeeidaaDoor
