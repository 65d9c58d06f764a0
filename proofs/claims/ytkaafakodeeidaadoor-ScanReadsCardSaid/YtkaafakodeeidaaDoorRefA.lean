/-
  Layer 5's reference: words, with what the rest needs; walked.
-/
import Derived.Test.YtkaafakodeeidaaDoorPlan
namespace Go.Proofs.YtkaafakodeeidaaDoor
open Go.RowKit

theorem Blk.put3 {w : World} {g : Nat} {t : TypeId} {a b c : Value} (h : Blk w g t #[a, b, c]) (x y z : Value) :
    Blk (((w.setCell ⟨g, 0, none⟩ x).setCell ⟨g, 1, none⟩ y).setCell ⟨g, 2, none⟩ z) g t #[x, y, z] := ((h.put 0 x).put 1 y).put 2 z
theorem bel_set3 {w wk : World} {g : Nat} (h : Below w.heap.size w wk) (hg : w.heap.size ≤ g) (x y z : Value) :
    Below w.heap.size w (((wk.setCell ⟨g, 0, none⟩ x).setCell ⟨g, 1, none⟩ y).setCell ⟨g, 2, none⟩ z) := ((h.setCell hg x).setCell hg y).setCell hg z
/-- A token as the reference says it: kind, end, error. -/
def tokAt (i : Nat) (r : Nat × Nat × Nat) : Nat × Nat × Nat := (r.1, if r.2.2 = 0 then i + r.2.1 else 0, r.2.2)
def RetT (r : Nat × Nat × Nat) (w : World) (e : Ending) (w' : World) : Prop := e = .returned (.agg #[.int .i64 (r.1 : Int), .int .i64 (r.2.1 : Int), .int .i64 (r.2.2 : Int)]) ∧ Below w.heap.size w w'
theorem tl_bt (s : ByteArray) (i j : Nat) : bt (tl s i) j = bt s (i + j) := by
  by_cases h : i + j < s.size
  · have h1 : j < (tl s i).size := by rw [tl_is]; omega
    rw [← bt_get _ h1, ← bt_get s h]
    congr 1
    show (tl s i).data[j] = s.data[i + j]
    unfold tl
    simp
  · rw [bt_none _ (by rw [tl_is]; omega), bt_none s (by omega)]
theorem tl_ext (s : ByteArray) (i n : Nat) (h : i + n ≤ s.size) : (tl s i).extract 0 n = s.extract i (i + n) := by
  unfold tl
  rw [ByteArray.extract_extract]
  congr 1 <;> omega
theorem run_tl {p q : Nat → Bool} (s : ByteArray) (i k : Nat) (hi : i ≤ s.size) (h : ∀ j, j < s.size - i → q (i + j) = p j) : run q s.size (i + k) = i + run p (tl s i).size k := by
  have := run_shift (p := p) (q := q) (m := s.size - i) (i := i) _ k rfl h
  rw [show i + (s.size - i) = s.size by omega] at this
  rw [tl_is]
  exact this
theorem refWord_is {v : Bool} (c : Nat) (w : World) (h : wordB c = v) : Calls Tryd.prog 49 #[.int .u8 (c : Int)] w (RetB v w) := by
  rw [← h]
  exact refWord_any c w
theorem at_is {v : Nat} (s : ByteArray) (i : Nat) (w : World) (h : bt s i = v) : Calls Tryd.prog 34 #[.string s, .int .i64 (i : Int)] w (fun e w' => e = .returned (.int .u8 (v : Int)) ∧ w' = w) := by
  rw [← h]
  exact at_any s i w
theorem key5_is {v : Bool} (s : ByteArray) (w : World) (h : keyB s = v) : Calls Tryd.prog 9 #[.string s] w (fun e w' => e = .returned (.bool v) ∧ Below w.heap.size w w') := by
  rw [← h]
  exact refKey_any s w
set_option maxRecDepth 100000 in
set_option maxHeartbeats 2000000 in
theorem refName_any (s : ByteArray) (i : Nat) (w : World) (hs : s.size ≤ 100000) (hi : i < s.size) (hc : letter (bt s i : Int) = true) : Calls Tryd.prog 36 #[.string s, .int .i64 (i : Int)] w (RetT (tokAt i (tokOf (tl s i))) w) := by
  have hq : run (wordP s) s.size (i + 0) = i + run (wordP (tl s i)) (tl s i).size 0 := run_tl s i 0 (by omega) fun j _ => by unfold wordP; rw [tl_bt]
  rw [Nat.add_zero] at hq
  obtain ⟨n, hn⟩ : ∃ n, run (wordP (tl s i)) (tl s i).size 0 = n := ⟨_, rfl⟩
  have hns := run_le (wordP s) (m := s.size) (k := i) (by omega)
  rw [hn] at hq
  rw [hq] at hns
  have he : tokOf (tl s i) = if 20 < n then (0, 0, 7) else if keyB (s.extract i (i + n)) = true then (7, n, 0) else (1, n, 0) := by
    unfold tokOf
    rw [tl_bt, Nat.add_zero, if_pos hc, hn, tl_ext s i n hns]
  obtain ⟨R, hR⟩ : ∃ R, tokAt i (tokOf (tl s i)) = R := ⟨_, rfl⟩
  rw [hR]
  rw [he] at hR
  have HR := Lib.hid hR
  have HQ := Lib.hid hq
  have HS := Lib.hid hs
  clear hR he hq hn hc hs
  obtain ⟨wa, hwa⟩ : ∃ wa, wa = w.alloc (.cells #[.int .i64 0, .int .i64 0, .int .i64 0] 47) := ⟨_, rfl⟩
  have hbl : Below w.heap.size w wa := by rw [hwa]; exact bel_alloc (bel_refl _) _
  have RES : Blk wa w.heap.size 47 #[.int .i64 0, .int .i64 0, .int .i64 0] := by
    have hz := Blk.new w 47 #[.int .i64 0, .int .i64 0, .int .i64 0]
    rw [hwa]
    exact hz
  have HW := Lib.hid hbl; clear hbl
  replace RES := Lib.hid RES
  go_enter Tryd.func36, Tryd.ntmps36
  go_wp2_with fail
  rw [← hwa]
  clear hwa
  go_loopw [5] (fun ev wr => ∃ j : Nat, ev = .int .i64 (j : Int) ∧ i ≤ j ∧ j ≤ s.size ∧ wr = wa ∧ run (wordP s) s.size j = run (wordP s) s.size i) (fun ev _ => s.size - (intOf ev).toNat)
  case atStart => exact ⟨i, rfl, Nat.le_refl _, by omega, rfl, rfl⟩
  case round =>
    obtain ⟨j, rfl, hij, hj, rfl, hr⟩ := hrel
    have HJ := Lib.hid hr; clear hr
    obtain ⟨c, hc⟩ : ∃ c, bt s j = c := ⟨_, rfl⟩
    have KA := Lib.hid (at_is s j wr hc)
    obtain ⟨d, hd⟩ : ∃ d, wordB c = d := ⟨_, rfl⟩
    have KW := Lib.hid (refWord_is c wr hd)
    have HCD := Lib.hid (And.intro hc hd); clear hc hd
    cases d
    · have hjn : j = i + n := by
        rw [← HQ.out, ← HJ.out]
        by_cases h : j < s.size
        · rw [run_not]
          unfold wordP
          rw [HCD.out.1, HCD.out.2]
        · rw [run_out h]
      have s1 : IntKind.i64.wrap ((j : Int) - (i : Int)) = (n : Int) := by rw [IntKind.wrap_i64]; have := HS.out; omega
      have q1 : (i : Int) ≤ (j : Int) := by omega
      have q2 : (j : Int) ≤ (s.size : Int) := by omega
      have HJN := Lib.hid hjn; clear hjn
      by_cases hbig : 20 < n
      · have hb' : (20 : Int) < (n : Int) := by omega
        have HB := Lib.hid hbig; clear hbig
        have d0 : wr.cell? ⟨w.heap.size, 0, none⟩ = some (.int .i64 0) := RES.out.cell 0
        have f0 : wr.frozen? ⟨w.heap.size, 0, none⟩ = false := RES.out.frozen 0
        have d1 : wr.cell? ⟨w.heap.size, 1, none⟩ = some (.int .i64 0) := RES.out.cell 1
        have f1 : wr.frozen? ⟨w.heap.size, 1, none⟩ = false := RES.out.frozen 1
        have d2 : wr.cell? ⟨w.heap.size, 2, none⟩ = some (.int .i64 0) := RES.out.cell 2
        have f2 : wr.frozen? ⟨w.heap.size, 2, none⟩ = false := RES.out.frozen 2
        have hlw : w.heap.size < wr.heap.size := RES.out.lt
        have D := Lib.hid (And.intro (RES.out.put3 (.int .i64 0) (.int .i64 0) (.int .i64 7)) (bel_set3 (g := w.heap.size) HW.out (Nat.le_refl _) (.int .i64 0) (.int .i64 0) (.int .i64 7)))
        go_wp2_with fail
        refine KA.out.mono ?_
        rintro e w1 ⟨rfl, rfl⟩
        go_wp2_with fail
        refine KW.out.mono ?_
        rintro e w1 ⟨rfl, rfl⟩
        go_wp2
        refine bodyPost_ret (v := .agg #[.int .i64 0, .int .i64 0, .int .i64 7]) ?hr rfl ?hR
        case hR => exact ⟨by rw [← HR.out, if_pos HB.out]; rfl, D.out.2⟩
        case hr => exact results_cell_row rfl _ _ w.heap.size 47 _ (0, 0) _ rfl D.out.1 Tryd.underlying47 rfl (by kernel_rfl)
      · have hb' : ¬ (20 : Int) < (n : Int) := by omega
        have HB := Lib.hid hbig; clear hbig
        obtain ⟨v, hv⟩ : ∃ v, keyB (s.extract i j) = v := ⟨_, rfl⟩
        have KK := Lib.hid (key5_is (s.extract i j) wr hv)
        have HV : Hid (keyB (s.extract i (i + n)) = v) := Lib.hid (by rw [← HJN.out]; exact hv)
        clear hv
        cases v
        · go_wp2_with fail
          refine KA.out.mono ?_
          rintro e w1 ⟨rfl, rfl⟩
          go_wp2_with fail
          refine KW.out.mono ?_
          rintro e w1 ⟨rfl, rfl⟩
          go_wp2_with fail
          refine KK.out.mono ?_
          rintro e w2 ⟨rfl, hbl⟩
          replace RES := Lib.hid (RES.out.below hbl RES.out.lt)
          replace HW := Lib.hid (bel_trans HW.out hbl); clear hbl
          have d0 : w2.cell? ⟨w.heap.size, 0, none⟩ = some (.int .i64 0) := RES.out.cell 0
          have f0 : w2.frozen? ⟨w.heap.size, 0, none⟩ = false := RES.out.frozen 0
          have d1 : w2.cell? ⟨w.heap.size, 1, none⟩ = some (.int .i64 0) := RES.out.cell 1
          have f1 : w2.frozen? ⟨w.heap.size, 1, none⟩ = false := RES.out.frozen 1
          have d2 : w2.cell? ⟨w.heap.size, 2, none⟩ = some (.int .i64 0) := RES.out.cell 2
          have f2 : w2.frozen? ⟨w.heap.size, 2, none⟩ = false := RES.out.frozen 2
          have hlw : w.heap.size < w2.heap.size := RES.out.lt
          have D := Lib.hid (And.intro (RES.out.put3 (.int .i64 1) (.int .i64 (j : Int)) (.int .i64 0)) (bel_set3 (g := w.heap.size) HW.out (Nat.le_refl _) (.int .i64 1) (.int .i64 (j : Int)) (.int .i64 0)))
          go_wp2
          refine bodyPost_ret (v := .agg #[.int .i64 1, .int .i64 (j : Int), .int .i64 0]) ?hr rfl ?hR
          case hR => exact ⟨by rw [← HR.out, if_neg HB.out, if_neg (by rw [HV.out]; decide), HJN.out]; rfl, D.out.2⟩
          case hr => exact results_cell_row rfl _ _ w.heap.size 47 _ (0, 0) _ rfl D.out.1 Tryd.underlying47 rfl (by kernel_rfl)
        · go_wp2_with fail
          refine KA.out.mono ?_
          rintro e w1 ⟨rfl, rfl⟩
          go_wp2_with fail
          refine KW.out.mono ?_
          rintro e w1 ⟨rfl, rfl⟩
          go_wp2_with fail
          refine KK.out.mono ?_
          rintro e w2 ⟨rfl, hbl⟩
          replace RES := Lib.hid (RES.out.below hbl RES.out.lt)
          replace HW := Lib.hid (bel_trans HW.out hbl); clear hbl
          have d0 : w2.cell? ⟨w.heap.size, 0, none⟩ = some (.int .i64 0) := RES.out.cell 0
          have f0 : w2.frozen? ⟨w.heap.size, 0, none⟩ = false := RES.out.frozen 0
          have d1 : w2.cell? ⟨w.heap.size, 1, none⟩ = some (.int .i64 0) := RES.out.cell 1
          have f1 : w2.frozen? ⟨w.heap.size, 1, none⟩ = false := RES.out.frozen 1
          have d2 : w2.cell? ⟨w.heap.size, 2, none⟩ = some (.int .i64 0) := RES.out.cell 2
          have f2 : w2.frozen? ⟨w.heap.size, 2, none⟩ = false := RES.out.frozen 2
          have hlw : w.heap.size < w2.heap.size := RES.out.lt
          have D := Lib.hid (And.intro (RES.out.put3 (.int .i64 7) (.int .i64 (j : Int)) (.int .i64 0)) (bel_set3 (g := w.heap.size) HW.out (Nat.le_refl _) (.int .i64 7) (.int .i64 (j : Int)) (.int .i64 0)))
          go_wp2
          refine bodyPost_ret (v := .agg #[.int .i64 7, .int .i64 (j : Int), .int .i64 0]) ?hr rfl ?hR
          case hR => exact ⟨by rw [← HR.out, if_neg HB.out, if_pos HV.out, HJN.out]; rfl, D.out.2⟩
          case hr => exact results_cell_row rfl _ _ w.heap.size 47 _ (0, 0) _ rfl D.out.1 Tryd.underlying47 rfl (by kernel_rfl)
    · have hlt : j < s.size := by
        rcases Nat.lt_or_ge j s.size with h | h
        · exact h
        · have h1 := HCD.out.2
          rw [← HCD.out.1, bt_none s (by omega)] at h1
          cases h1
      have s1 : IntKind.i64.wrap ((j : Int) + 1) = ((j + 1 : Nat) : Int) := by rw [IntKind.wrap_i64]; have := HS.out; omega
      go_wp2_with fail
      refine KA.out.mono ?_
      rintro e w1 ⟨rfl, rfl⟩
      go_wp2_with fail
      refine KW.out.mono ?_
      rintro e w1 ⟨rfl, rfl⟩
      go_wp2
      go_roundw
      case rel => exact ⟨j + 1, rfl, by omega, by omega, by first | rfl | trivial, by
        rw [← HJ.out]
        refine (run_step hlt ?_).symm
        unfold wordP
        rw [HCD.out.1, HCD.out.2]⟩
      case measure => simp [intOf]; omega
end Go.Proofs.YtkaafakodeeidaaDoor
