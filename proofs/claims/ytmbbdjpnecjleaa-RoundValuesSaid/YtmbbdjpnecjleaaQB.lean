/-
  rat.reduced, rat.Make, walked.
  rat.Like, rat.Text, walked.
  rat.Text, walked.
  rat.told's two contracts, rat.must's two.
  rat.sum, walked.
-/
import Derived.Test.YtmbbdjpnecjleaaQA
import Derived.Defers
import Derived.Recover
import Derived.Laws.Pointers
namespace Go.Proofs.Ytmbbdjpnecjleaa
section
open Go.RowKit

set_option maxRecDepth 100000 in
set_option maxHeartbeats 1000000 in
theorem reduced_z (s : Bool) (A B : Option Addr) (c e : Nat) (n d : Nat) (w : World) (hn0 : n = 0) :
    Calls Try.prog 57 #[.bool s, .slice A (limbs n).length c, .slice B (limbs d).length e] w (RetQ (redQ s n d) w) := by
  have hx2 : ((limbs n).length : Int) = 0 := limbs_len0.2 hn0
  have hx : (((limbs n).length : Int) == 0) = true := by simpa using hx2
  rw [show redQ s n d = ⟨false, 0, 1⟩ by unfold redQ; rw [if_pos hn0]]
  clear hn0
  obtain ⟨wa, hwa⟩ : ∃ wa, wa = w.alloc (.cells #[.bool false, .slice none 0 0, .slice none 0 0] 25) := ⟨_, rfl⟩
  have hbl : Below w.heap.size w wa := by rw [hwa]; exact bel_alloc (bel_refl _) _
  have RES : Blk wa (w.heap.size) 25 #[.bool false, .slice none 0 0, .slice none 0 0] := by
    have hz := Blk.new (w) 25 #[.bool false, .slice none 0 0, .slice none 0 0]
    rw [hwa]
    exact hz
  have HW := Lib.hid hbl; clear hbl
  replace RES := Lib.hid RES
  go_enter Try.func57, Try.ntmps57
  go_wp2_with fail
  rw [← hwa]
  clear hwa
  refine (one_any _).mono ?_
  rintro e w1 ⟨vo, rfl, hno, hbl⟩
  replace RES := Lib.hid (RES.out.below hbl RES.out.lt)
  replace HW := Lib.hid (bel_trans HW.out hbl); clear hbl
  have HNo := Lib.hid hno; clear hno
  obtain ⟨Ao, co, rfl, hco, hro⟩ := HNo.out.row
  have Ro := Lib.hid hro; have HCo := Lib.hid hco; clear hro hco
  have d0 : w1.cell? ⟨w.heap.size, 0, none⟩ = some (.bool false) := RES.out.cell 0
  have f0 : w1.frozen? ⟨w.heap.size, 0, none⟩ = false := RES.out.frozen 0
  have d1 : w1.cell? ⟨w.heap.size, 1, none⟩ = some (.slice none 0 0) := RES.out.cell 1
  have f1 : w1.frozen? ⟨w.heap.size, 1, none⟩ = false := RES.out.frozen 1
  have d2 : w1.cell? ⟨w.heap.size, 2, none⟩ = some (.slice none 0 0) := RES.out.cell 2
  have f2 : w1.frozen? ⟨w.heap.size, 2, none⟩ = false := RES.out.frozen 2
  have D := Lib.hid (And.intro (RES.out.put3 (.bool false) (.slice none 0 0) (.slice Ao (limbs 1).length co)) (bel_set3 HW.out (Nat.le_refl _) (.bool false) (.slice none 0 0) (.slice Ao (limbs 1).length co)))
  have N0 := Lib.hid (RdN.set3 RES.out (RdN.none0 _) (.bool false) (.slice none 0 0) (.slice Ao (limbs 1).length co))
  have N1 := Lib.hid (RdN.set3 RES.out (HNo.out) (.bool false) (.slice none 0 0) (.slice Ao (limbs 1).length co))
  go_wp2
  refine bodyPost_ret (v := .agg #[.bool false, .slice none 0 0, .slice Ao (limbs 1).length co]) ?hr rfl ?hR
  case hR => exact ⟨_, _, rfl, N0.out, N1.out, D.out.2⟩
  case hr => exact results_cell_row rfl _ _ (w.heap.size) 25 _ (0, 0) _ rfl D.out.1 Try.underlying25 rfl (by kernel_rfl)

set_option maxRecDepth 100000 in
set_option maxHeartbeats 1000000 in
theorem reduced_p (s : Bool) (A B : Option Addr) (c e : Nat) (n d : Nat) (w : World) (h : RdL w A (limbs n)) (h' : RdL w B (limbs d)) (hc : (limbs n).length ≤ c) (hc' : (limbs d).length ≤ e) (hn : n < Top) (hd : d < Top) (hd0 : d ≠ 0) (hn0 : n ≠ 0) :
    Calls Try.prog 57 #[.bool s, .slice A (limbs n).length c, .slice B (limbs d).length e] w (RetQ (redQ s n d) w) := by
  have hx2 : ¬ ((limbs n).length : Int) = 0 := mt limbs_len0.1 hn0
  have hx : (((limbs n).length : Int) == 0) = false := by simpa using hx2
  rw [show redQ s n d = ⟨s, n / Nat.gcd n d, d / Nat.gcd n d⟩ by unfold redQ; rw [if_neg hn0]]
  clear hn0
  have LA := Lib.hid (And.intro hn hc); clear hn hc
  have LB := Lib.hid (And.intro hd (And.intro hc' hd0)); clear hd hc' hd0
  have RA := Lib.hid h; clear h
  have RB := Lib.hid h'; clear h'
  have LG := Lib.hid (And.intro (gcd_top LA.out.1 LB.out.1) (Nat.ne_of_gt (Nat.gcd_pos_of_pos_right n (Nat.pos_of_ne_zero LB.out.2.2))))
  obtain ⟨wa, hwa⟩ : ∃ wa, wa = w.alloc (.cells #[.bool false, .slice none 0 0, .slice none 0 0] 25) := ⟨_, rfl⟩
  have hbl : Below w.heap.size w wa := by rw [hwa]; exact bel_alloc (bel_refl _) _
  have RES : Blk wa (w.heap.size) 25 #[.bool false, .slice none 0 0, .slice none 0 0] := by
    have hz := Blk.new (w) 25 #[.bool false, .slice none 0 0, .slice none 0 0]
    rw [hwa]
    exact hz
  replace RA := Lib.hid (RA.out.below hbl)
  replace RB := Lib.hid (RB.out.below hbl)
  have HW := Lib.hid hbl; clear hbl
  replace RES := Lib.hid RES
  go_enter Try.func57, Try.ntmps57
  go_wp2_with fail
  rw [← hwa]
  clear hwa
  refine (common_num A B c e n d _ RA.out RB.out LA.out.2 LB.out.2.1 LA.out.1 LB.out.1).mono ?_
  rintro e w1 ⟨vg, rfl, hng, hbl⟩
  replace RA := Lib.hid (RA.out.below hbl)
  replace RB := Lib.hid (RB.out.below hbl)
  replace RES := Lib.hid (RES.out.below hbl RES.out.lt)
  replace HW := Lib.hid (bel_trans HW.out hbl); clear hbl
  have HNg := Lib.hid hng; clear hng
  obtain ⟨Ag, cg, rfl, hcg, hrg⟩ := HNg.out.row
  have Rg := Lib.hid hrg; have HCg := Lib.hid hcg; clear hrg hcg
  go_wp2_with fail
  refine (div_num A Ag c cg n (Nat.gcd n d) _ RA.out Rg.out LA.out.1 LG.out.1 LG.out.2).mono ?_
  rintro e w2 ⟨vq, vr, rfl, hnq, hnr, hbl⟩
  replace RA := Lib.hid (RA.out.below hbl)
  replace RB := Lib.hid (RB.out.below hbl)
  replace Rg := Lib.hid (Rg.out.below hbl)
  replace HNg := Lib.hid (HNg.out.below hbl)
  replace RES := Lib.hid (RES.out.below hbl RES.out.lt)
  replace HW := Lib.hid (bel_trans HW.out hbl); clear hbl
  have HNq := Lib.hid hnq; clear hnq
  obtain ⟨Aq, cq, rfl, hcq, hrq⟩ := HNq.out.row
  have Rq := Lib.hid hrq; have HCq := Lib.hid hcq; clear hrq hcq
  have HNr := Lib.hid hnr; clear hnr
  obtain ⟨Ar, cr, rfl, hcr, hrr⟩ := HNr.out.row
  have Rr := Lib.hid hrr; have HCr := Lib.hid hcr; clear hrr hcr
  go_wp2_with fail
  refine (div_num B Ag e cg d (Nat.gcd n d) _ RB.out Rg.out LB.out.1 LG.out.1 LG.out.2).mono ?_
  rintro e w3 ⟨vx, vy, rfl, hnx, hny, hbl⟩
  replace RA := Lib.hid (RA.out.below hbl)
  replace RB := Lib.hid (RB.out.below hbl)
  replace Rg := Lib.hid (Rg.out.below hbl)
  replace HNg := Lib.hid (HNg.out.below hbl)
  replace Rq := Lib.hid (Rq.out.below hbl)
  replace HNq := Lib.hid (HNq.out.below hbl)
  replace Rr := Lib.hid (Rr.out.below hbl)
  replace HNr := Lib.hid (HNr.out.below hbl)
  replace RES := Lib.hid (RES.out.below hbl RES.out.lt)
  replace HW := Lib.hid (bel_trans HW.out hbl); clear hbl
  have HNx := Lib.hid hnx; clear hnx
  obtain ⟨Ax, cx, rfl, hcx, hrx⟩ := HNx.out.row
  have Rx := Lib.hid hrx; have HCx := Lib.hid hcx; clear hrx hcx
  have HNy := Lib.hid hny; clear hny
  obtain ⟨Ay, cy, rfl, hcy, hry⟩ := HNy.out.row
  have Ry := Lib.hid hry; have HCy := Lib.hid hcy; clear hry hcy
  have d0 : w3.cell? ⟨w.heap.size, 0, none⟩ = some (.bool false) := RES.out.cell 0
  have f0 : w3.frozen? ⟨w.heap.size, 0, none⟩ = false := RES.out.frozen 0
  have d1 : w3.cell? ⟨w.heap.size, 1, none⟩ = some (.slice none 0 0) := RES.out.cell 1
  have f1 : w3.frozen? ⟨w.heap.size, 1, none⟩ = false := RES.out.frozen 1
  have d2 : w3.cell? ⟨w.heap.size, 2, none⟩ = some (.slice none 0 0) := RES.out.cell 2
  have f2 : w3.frozen? ⟨w.heap.size, 2, none⟩ = false := RES.out.frozen 2
  have D := Lib.hid (And.intro (RES.out.put3 (.bool s) (.slice Aq (limbs (n / Nat.gcd n d)).length cq) (.slice Ax (limbs (d / Nat.gcd n d)).length cx)) (bel_set3 HW.out (Nat.le_refl _) (.bool s) (.slice Aq (limbs (n / Nat.gcd n d)).length cq) (.slice Ax (limbs (d / Nat.gcd n d)).length cx)))
  have N0 := Lib.hid (RdN.set3 RES.out (HNq.out) (.bool s) (.slice Aq (limbs (n / Nat.gcd n d)).length cq) (.slice Ax (limbs (d / Nat.gcd n d)).length cx))
  have N1 := Lib.hid (RdN.set3 RES.out (HNx.out) (.bool s) (.slice Aq (limbs (n / Nat.gcd n d)).length cq) (.slice Ax (limbs (d / Nat.gcd n d)).length cx))
  go_wp2
  refine bodyPost_ret (v := .agg #[.bool s, .slice Aq (limbs (n / Nat.gcd n d)).length cq, .slice Ax (limbs (d / Nat.gcd n d)).length cx]) ?hr rfl ?hR
  case hR => exact ⟨_, _, rfl, N0.out, N1.out, D.out.2⟩
  case hr => exact results_cell_row rfl _ _ (w.heap.size) 25 _ (0, 0) _ rfl D.out.1 Try.underlying25 rfl (by kernel_rfl)

theorem reduced_any (s : Bool) (A B : Option Addr) (c e : Nat) (n d : Nat) (w : World) (h : RdL w A (limbs n)) (h' : RdL w B (limbs d)) (hc : (limbs n).length ≤ c) (hc' : (limbs d).length ≤ e) (hn : n < Top) (hd : d < Top) (hd0 : d ≠ 0) :
    Calls Try.prog 57 #[.bool s, .slice A (limbs n).length c, .slice B (limbs d).length e] w (RetQ (redQ s n d) w) := by
  by_cases hn0 : n = 0
  · exact reduced_z s A B c e n d w hn0
  · exact reduced_p s A B c e n d w h h' hc hc' hn hd hd0 hn0
theorem RetQ.row {q : Q} {w w' : World} {e : Ending} (h : RetQ q w e w') : ∃ A B c d, e = .returned (.agg #[.bool q.s, .slice A (limbs q.n).length c, .slice B (limbs q.d).length d]) ∧ RdN w' (.slice A (limbs q.n).length c) q.n ∧ RdN w' (.slice B (limbs q.d).length d) q.d ∧ Below w.heap.size w w' := by
  obtain ⟨x, y, rfl, hx, hy, hb⟩ := h
  have hx' := hx; have hy' := hy
  obtain ⟨A, c, rfl, _, _⟩ := hx
  obtain ⟨B, d, rfl, _, _⟩ := hy
  exact ⟨A, B, c, d, rfl, hx', hy', hb⟩
theorem reduced_q {q : Q} (s : Bool) (A B : Option Addr) (c e : Nat) (n d : Nat) (w : World) (h : RdL w A (limbs n)) (h' : RdL w B (limbs d)) (hc : (limbs n).length ≤ c) (hc' : (limbs d).length ≤ e) (hn : n < Top) (hd : d < Top) (hd0 : d ≠ 0) (hq : redQ s n d = q) :
    Calls Try.prog 57 #[.bool s, .slice A (limbs n).length c, .slice B (limbs d).length e] w (RetQ q w) := by
  rw [← hq]
  exact reduced_any s A B c e n d w h h' hc hc' hn hd hd0
set_option maxRecDepth 100000 in
set_option maxHeartbeats 1000000 in
theorem make_num (s : Bool) (A B : Option Addr) (c d : Nat) (xs ys : List Nat) (w : World) (h : RdL w A xs) (hl : xs.length ≤ 18) (hr : rightL xs = false) :
    Calls Try.prog 21 #[.bool s, .slice A xs.length c, .slice B ys.length d] w (RetQE noQ 1 w) := by
  have HR := Lib.hid hr; clear hr
  have RA := Lib.hid h; clear h
  obtain ⟨wa, hwa⟩ : ∃ wa, wa = w.alloc (.cells #[.bool false, .slice none 0 0, .slice none 0 0] 25) := ⟨_, rfl⟩
  have hbl : Below w.heap.size w wa := by rw [hwa]; exact bel_alloc (bel_refl _) _
  have RES : Blk wa (w.heap.size) 25 #[.bool false, .slice none 0 0, .slice none 0 0] := by
    have hz := Blk.new (w) 25 #[.bool false, .slice none 0 0, .slice none 0 0]
    rw [hwa]
    exact hz
  replace RA := Lib.hid (RA.out.below hbl)
  have HW := Lib.hid hbl; clear hbl
  replace RES := Lib.hid RES
  go_enter Try.func21, Try.ntmps21
  go_wp2_with fail
  rw [← hwa]
  clear hwa
  refine (right_bb A c xs _ RA.out hl).mono ?_
  rintro e w1 ⟨rfl, hbl⟩
  replace RA := Lib.hid (RA.out.below hbl)
  replace RES := Lib.hid (RES.out.below hbl RES.out.lt)
  replace HW := Lib.hid (bel_trans HW.out hbl); clear hbl
  rw [HR.out]
  have d0 : w1.cell? ⟨w.heap.size, 0, none⟩ = some (.bool false) := RES.out.cell 0
  have f0 : w1.frozen? ⟨w.heap.size, 0, none⟩ = false := RES.out.frozen 0
  have d1 : w1.cell? ⟨w.heap.size, 1, none⟩ = some (.slice none 0 0) := RES.out.cell 1
  have f1 : w1.frozen? ⟨w.heap.size, 1, none⟩ = false := RES.out.frozen 1
  have d2 : w1.cell? ⟨w.heap.size, 2, none⟩ = some (.slice none 0 0) := RES.out.cell 2
  have f2 : w1.frozen? ⟨w.heap.size, 2, none⟩ = false := RES.out.frozen 2
  have D := Lib.hid (And.intro (RES.out.put3 (.bool false) (.slice none 0 0) (.slice none 0 0)) (bel_set3 HW.out (Nat.le_refl _) (.bool false) (.slice none 0 0) (.slice none 0 0)))
  have N0 := Lib.hid (RdN.set3 RES.out (RdN.none0 _) (.bool false) (.slice none 0 0) (.slice none 0 0))
  have N1 := Lib.hid (RdN.set3 RES.out (RdN.none0 _) (.bool false) (.slice none 0 0) (.slice none 0 0))
  go_wp2
  refine bodyPost_ret (v := .tuple #[.agg #[.bool false, .slice none 0 0, .slice none 0 0], .int .i64 1]) ?hr rfl ?hR
  case hR => exact ⟨_, _, rfl, N0.out, N1.out, D.out.2⟩
  case hr => exact results_row_tmp rfl _ _ (w.heap.size) 25 _ (0, 0) _ _ rfl rfl D.out.1 Try.underlying25 rfl (by kernel_rfl)

set_option maxRecDepth 100000 in
set_option maxHeartbeats 1000000 in
theorem make_den (s : Bool) (A B : Option Addr) (c d : Nat) (xs ys : List Nat) (w : World) (h : RdL w A xs) (h' : RdL w B ys) (hl : xs.length ≤ 18) (hl' : ys.length ≤ 18) (hr : rightL xs = true) (hr2 : rightL ys = false) :
    Calls Try.prog 21 #[.bool s, .slice A xs.length c, .slice B ys.length d] w (RetQE noQ 1 w) := by
  have HR := Lib.hid (And.intro hr hr2); clear hr hr2
  have RA := Lib.hid h; clear h
  have RB := Lib.hid h'; clear h'
  obtain ⟨wa, hwa⟩ : ∃ wa, wa = w.alloc (.cells #[.bool false, .slice none 0 0, .slice none 0 0] 25) := ⟨_, rfl⟩
  have hbl : Below w.heap.size w wa := by rw [hwa]; exact bel_alloc (bel_refl _) _
  have RES : Blk wa (w.heap.size) 25 #[.bool false, .slice none 0 0, .slice none 0 0] := by
    have hz := Blk.new (w) 25 #[.bool false, .slice none 0 0, .slice none 0 0]
    rw [hwa]
    exact hz
  replace RA := Lib.hid (RA.out.below hbl)
  replace RB := Lib.hid (RB.out.below hbl)
  have HW := Lib.hid hbl; clear hbl
  replace RES := Lib.hid RES
  go_enter Try.func21, Try.ntmps21
  go_wp2_with fail
  rw [← hwa]
  clear hwa
  refine (right_bb A c xs _ RA.out hl).mono ?_
  rintro e w1 ⟨rfl, hbl⟩
  replace RA := Lib.hid (RA.out.below hbl)
  replace RB := Lib.hid (RB.out.below hbl)
  replace RES := Lib.hid (RES.out.below hbl RES.out.lt)
  replace HW := Lib.hid (bel_trans HW.out hbl); clear hbl
  rw [HR.out.1]
  go_wp2_with fail
  refine (right_bb B d ys _ RB.out hl').mono ?_
  rintro e w2 ⟨rfl, hbl⟩
  replace RA := Lib.hid (RA.out.below hbl)
  replace RB := Lib.hid (RB.out.below hbl)
  replace RES := Lib.hid (RES.out.below hbl RES.out.lt)
  replace HW := Lib.hid (bel_trans HW.out hbl); clear hbl
  rw [HR.out.2]
  have d0 : w2.cell? ⟨w.heap.size, 0, none⟩ = some (.bool false) := RES.out.cell 0
  have f0 : w2.frozen? ⟨w.heap.size, 0, none⟩ = false := RES.out.frozen 0
  have d1 : w2.cell? ⟨w.heap.size, 1, none⟩ = some (.slice none 0 0) := RES.out.cell 1
  have f1 : w2.frozen? ⟨w.heap.size, 1, none⟩ = false := RES.out.frozen 1
  have d2 : w2.cell? ⟨w.heap.size, 2, none⟩ = some (.slice none 0 0) := RES.out.cell 2
  have f2 : w2.frozen? ⟨w.heap.size, 2, none⟩ = false := RES.out.frozen 2
  have D := Lib.hid (And.intro (RES.out.put3 (.bool false) (.slice none 0 0) (.slice none 0 0)) (bel_set3 HW.out (Nat.le_refl _) (.bool false) (.slice none 0 0) (.slice none 0 0)))
  have N0 := Lib.hid (RdN.set3 RES.out (RdN.none0 _) (.bool false) (.slice none 0 0) (.slice none 0 0))
  have N1 := Lib.hid (RdN.set3 RES.out (RdN.none0 _) (.bool false) (.slice none 0 0) (.slice none 0 0))
  go_wp2
  refine bodyPost_ret (v := .tuple #[.agg #[.bool false, .slice none 0 0, .slice none 0 0], .int .i64 1]) ?hr rfl ?hR
  case hR => exact ⟨_, _, rfl, N0.out, N1.out, D.out.2⟩
  case hr => exact results_row_tmp rfl _ _ (w.heap.size) 25 _ (0, 0) _ _ rfl rfl D.out.1 Try.underlying25 rfl (by kernel_rfl)

set_option maxRecDepth 100000 in
set_option maxHeartbeats 1000000 in
theorem make_zero (s : Bool) (A B : Option Addr) (c d : Nat) (xs ys : List Nat) (w : World) (h : RdL w A xs) (h' : RdL w B ys) (hl : xs.length ≤ 18) (hl' : ys.length ≤ 18) (hr : rightL xs = true) (hr2 : rightL ys = true) (h0 : ys.length = 0) :
    Calls Try.prog 21 #[.bool s, .slice A xs.length c, .slice B ys.length d] w (RetQE noQ 4 w) := by
  have HR := Lib.hid (And.intro hr hr2); clear hr hr2
  have hz : ((ys.length : Int) == 0) = true := by simp [h0]
  have hz2 : (ys.length : Int) = 0 := by omega
  clear h0
  have RA := Lib.hid h; clear h
  have RB := Lib.hid h'; clear h'
  obtain ⟨wa, hwa⟩ : ∃ wa, wa = w.alloc (.cells #[.bool false, .slice none 0 0, .slice none 0 0] 25) := ⟨_, rfl⟩
  have hbl : Below w.heap.size w wa := by rw [hwa]; exact bel_alloc (bel_refl _) _
  have RES : Blk wa (w.heap.size) 25 #[.bool false, .slice none 0 0, .slice none 0 0] := by
    have hz := Blk.new (w) 25 #[.bool false, .slice none 0 0, .slice none 0 0]
    rw [hwa]
    exact hz
  replace RA := Lib.hid (RA.out.below hbl)
  replace RB := Lib.hid (RB.out.below hbl)
  have HW := Lib.hid hbl; clear hbl
  replace RES := Lib.hid RES
  go_enter Try.func21, Try.ntmps21
  go_wp2_with fail
  rw [← hwa]
  clear hwa
  refine (right_bb A c xs _ RA.out hl).mono ?_
  rintro e w1 ⟨rfl, hbl⟩
  replace RA := Lib.hid (RA.out.below hbl)
  replace RB := Lib.hid (RB.out.below hbl)
  replace RES := Lib.hid (RES.out.below hbl RES.out.lt)
  replace HW := Lib.hid (bel_trans HW.out hbl); clear hbl
  rw [HR.out.1]
  go_wp2_with fail
  refine (right_bb B d ys _ RB.out hl').mono ?_
  rintro e w2 ⟨rfl, hbl⟩
  replace RA := Lib.hid (RA.out.below hbl)
  replace RB := Lib.hid (RB.out.below hbl)
  replace RES := Lib.hid (RES.out.below hbl RES.out.lt)
  replace HW := Lib.hid (bel_trans HW.out hbl); clear hbl
  rw [HR.out.2]
  have d0 : w2.cell? ⟨w.heap.size, 0, none⟩ = some (.bool false) := RES.out.cell 0
  have f0 : w2.frozen? ⟨w.heap.size, 0, none⟩ = false := RES.out.frozen 0
  have d1 : w2.cell? ⟨w.heap.size, 1, none⟩ = some (.slice none 0 0) := RES.out.cell 1
  have f1 : w2.frozen? ⟨w.heap.size, 1, none⟩ = false := RES.out.frozen 1
  have d2 : w2.cell? ⟨w.heap.size, 2, none⟩ = some (.slice none 0 0) := RES.out.cell 2
  have f2 : w2.frozen? ⟨w.heap.size, 2, none⟩ = false := RES.out.frozen 2
  have D := Lib.hid (And.intro (RES.out.put3 (.bool false) (.slice none 0 0) (.slice none 0 0)) (bel_set3 HW.out (Nat.le_refl _) (.bool false) (.slice none 0 0) (.slice none 0 0)))
  have N0 := Lib.hid (RdN.set3 RES.out (RdN.none0 _) (.bool false) (.slice none 0 0) (.slice none 0 0))
  have N1 := Lib.hid (RdN.set3 RES.out (RdN.none0 _) (.bool false) (.slice none 0 0) (.slice none 0 0))
  go_wp2
  refine bodyPost_ret (v := .tuple #[.agg #[.bool false, .slice none 0 0, .slice none 0 0], .int .i64 4]) ?hr rfl ?hR
  case hR => exact ⟨_, _, rfl, N0.out, N1.out, D.out.2⟩
  case hr => exact results_row_tmp rfl _ _ (w.heap.size) 25 _ (0, 0) _ _ rfl rfl D.out.1 Try.underlying25 rfl (by kernel_rfl)

set_option maxRecDepth 100000 in
set_option maxHeartbeats 1000000 in
theorem make_ok {q : Q} (s : Bool) (A B : Option Addr) (c d : Nat) (a b : Nat) (w : World) (h : RdL w A (limbs a)) (h' : RdL w B (limbs b)) (hc : (limbs a).length ≤ c) (hc' : (limbs b).length ≤ d) (hn : a < Top) (hd : b < Top) (hd0 : b ≠ 0) (hq : redQ s a b = q) :
    Calls Try.prog 21 #[.bool s, .slice A (limbs a).length c, .slice B (limbs b).length d] w (RetQE q 0 w) := by
  have LA := Lib.hid (And.intro hn hc); clear hn hc
  have LB := Lib.hid (And.intro hd (And.intro hc' hd0))
  have hx2 : ¬ ((limbs b).length : Int) = 0 := mt limbs_len0.1 hd0
  have hx : (((limbs b).length : Int) == 0) = false := by simpa using hx2
  clear hd hc' hd0
  have HQ := Lib.hid hq; clear hq
  have RA := Lib.hid h; clear h
  have RB := Lib.hid h'; clear h'
  obtain ⟨wa, hwa⟩ : ∃ wa, wa = w.alloc (.cells #[.bool false, .slice none 0 0, .slice none 0 0] 25) := ⟨_, rfl⟩
  have hbl : Below w.heap.size w wa := by rw [hwa]; exact bel_alloc (bel_refl _) _
  have RES : Blk wa (w.heap.size) 25 #[.bool false, .slice none 0 0, .slice none 0 0] := by
    have hz := Blk.new (w) 25 #[.bool false, .slice none 0 0, .slice none 0 0]
    rw [hwa]
    exact hz
  replace RA := Lib.hid (RA.out.below hbl)
  replace RB := Lib.hid (RB.out.below hbl)
  have HW := Lib.hid hbl; clear hbl
  replace RES := Lib.hid RES
  go_enter Try.func21, Try.ntmps21
  go_wp2_with fail
  rw [← hwa]
  clear hwa
  refine (rightR LA.out.1 A c _ RA.out).mono ?_
  rintro e w1 ⟨rfl, hbl⟩
  replace RA := Lib.hid (RA.out.below hbl)
  replace RB := Lib.hid (RB.out.below hbl)
  replace RES := Lib.hid (RES.out.below hbl RES.out.lt)
  replace HW := Lib.hid (bel_trans HW.out hbl); clear hbl
  go_wp2_with fail
  refine (rightR LB.out.1 B d _ RB.out).mono ?_
  rintro e w2 ⟨rfl, hbl⟩
  replace RA := Lib.hid (RA.out.below hbl)
  replace RB := Lib.hid (RB.out.below hbl)
  replace RES := Lib.hid (RES.out.below hbl RES.out.lt)
  replace HW := Lib.hid (bel_trans HW.out hbl); clear hbl
  go_wp2_with fail
  refine (reduced_q s A B c d a b _ RA.out RB.out LA.out.2 LB.out.2.1 LA.out.1 LB.out.1 LB.out.2.2 HQ.out).mono ?_
  rintro e w3 ⟨vx, vy, rfl, hnx, hny, hbl⟩
  replace RA := Lib.hid (RA.out.below hbl)
  replace RB := Lib.hid (RB.out.below hbl)
  replace RES := Lib.hid (RES.out.below hbl RES.out.lt)
  replace HW := Lib.hid (bel_trans HW.out hbl); clear hbl
  have HNx := Lib.hid hnx; clear hnx
  obtain ⟨Ax, cx, rfl, hcx, hrx⟩ := HNx.out.row
  have Rx := Lib.hid hrx; have HCx := Lib.hid hcx; clear hrx hcx
  have HNy := Lib.hid hny; clear hny
  obtain ⟨Ay, cy, rfl, hcy, hry⟩ := HNy.out.row
  have Ry := Lib.hid hry; have HCy := Lib.hid hcy; clear hry hcy
  have d0 : w3.cell? ⟨w.heap.size, 0, none⟩ = some (.bool false) := RES.out.cell 0
  have f0 : w3.frozen? ⟨w.heap.size, 0, none⟩ = false := RES.out.frozen 0
  have d1 : w3.cell? ⟨w.heap.size, 1, none⟩ = some (.slice none 0 0) := RES.out.cell 1
  have f1 : w3.frozen? ⟨w.heap.size, 1, none⟩ = false := RES.out.frozen 1
  have d2 : w3.cell? ⟨w.heap.size, 2, none⟩ = some (.slice none 0 0) := RES.out.cell 2
  have f2 : w3.frozen? ⟨w.heap.size, 2, none⟩ = false := RES.out.frozen 2
  have D := Lib.hid (And.intro (RES.out.put3 (.bool q.s) (.slice Ax (limbs q.n).length cx) (.slice Ay (limbs q.d).length cy)) (bel_set3 HW.out (Nat.le_refl _) (.bool q.s) (.slice Ax (limbs q.n).length cx) (.slice Ay (limbs q.d).length cy)))
  have N0 := Lib.hid (RdN.set3 RES.out (HNx.out) (.bool q.s) (.slice Ax (limbs q.n).length cx) (.slice Ay (limbs q.d).length cy))
  have N1 := Lib.hid (RdN.set3 RES.out (HNy.out) (.bool q.s) (.slice Ax (limbs q.n).length cx) (.slice Ay (limbs q.d).length cy))
  go_wp2
  refine bodyPost_ret (v := .tuple #[.agg #[.bool q.s, .slice Ax (limbs q.n).length cx, .slice Ay (limbs q.d).length cy], .int .i64 0]) ?hr rfl ?hR
  case hR => exact ⟨_, _, rfl, N0.out, N1.out, D.out.2⟩
  case hr => exact results_row_tmp rfl _ _ (w.heap.size) 25 _ (0, 0) _ _ rfl rfl D.out.1 Try.underlying25 rfl (by kernel_rfl)
end
section
open Go.RowKit

theorem rightB_q {s : Bool} {n d : Nat} (hn : n < Top) (hd : d < Top) : rightB s (limbs n) (limbs d) = true ↔ QR ⟨s, n, d⟩ := by
  have e1 : decide ((limbs n).length = 0) = decide (n = 0) := by rw [decide_eq_decide]; have := @limbs_len0 n; omega
  have e2 : decide ((limbs d).length ≠ 0) = decide (d ≠ 0) := by rw [decide_eq_decide]; have := @limbs_len0 d; omega
  unfold rightB
  rw [lval_limbs, lval_limbs, rightL_limbs hn, rightL_limbs hd, e1, e2]
  constructor
  · intro h
    simp at h
    exact ⟨h.1.1, fun h0 => h.1.2.resolve_left (fun f => f h0), h.2⟩
  · intro h
    have h1 := h.den; have h2 := h.zero; have h3 := h.co
    simp only [] at h1 h2 h3
    simp [h1, h3]
    by_cases h0 : n = 0
    · exact Or.inr (h2 h0)
    · exact Or.inl h0
theorem rightB_num {s : Bool} {xs ys : List Nat} (hx : Lim xs) (hy : Lim ys) (h : rightB s xs ys = true) : ∃ q : Q, q.s = s ∧ xs = limbs q.n ∧ ys = limbs q.d ∧ q.n < Top ∧ q.d < Top ∧ QR q := by
  have h' := h
  unfold rightB at h'
  simp only [Bool.and_eq_true] at h'
  obtain ⟨n, rfl, hn⟩ := right_num hx h'.1.1.1.1
  obtain ⟨d, rfl, hd⟩ := right_num hy h'.1.1.1.2
  exact ⟨⟨s, n, d⟩, rfl, rfl, rfl, hn, hd, (rightB_q hn hd).1 h⟩
theorem ratRight_q (q : Q) (A B : Option Addr) (c d : Nat) (w : World) (h : RdL w A (limbs q.n)) (h' : RdL w B (limbs q.d)) (hc : (limbs q.n).length ≤ c) (hc' : (limbs q.d).length ≤ d) (hn : q.n < Top) (hd : q.d < Top) (hq : QR q) :
    Calls Try.prog 23 #[.agg #[.bool q.s, .slice A (limbs q.n).length c, .slice B (limbs q.d).length d]] w (RetBB true w) := by
  have := ratRight_any q.s A B c d (limbs q.n) (limbs q.d) w h h' (limbs_lim q.n) (limbs_lim q.d) (len18 hn) (len18 hd) hc hc'
  rwa [(rightB_q hn hd).2 hq] at this
theorem refRatRight_q (q : Q) (A B : Option Addr) (c d : Nat) (w : World) (h : RdL w A (limbs q.n)) (h' : RdL w B (limbs q.d)) (hn : q.n < Top) (hd : q.d < Top) (hq : QR q) :
    Calls Try.prog 13 #[.agg #[.bool q.s, .slice A (limbs q.n).length c, .slice B (limbs q.d).length d]] w (RetBB true w) := by
  have := refRatRight_any q.s A B c d (limbs q.n) (limbs q.d) w h h' (limbs_lim q.n) (limbs_lim q.d) (len18 hn) (len18 hd)
  rwa [(rightB_q hn hd).2 hq] at this
theorem equal_is (v : Bool) (A A' : Option Addr) (cap cap' : Nat) (xs ys : List Nat) (w : World) (h : RdL w A xs) (h' : RdL w A' ys) (hl : xs.length ≤ 18) (hv : decide (xs = ys) = v) : Calls Try.prog 59 #[.slice A xs.length cap, .slice A' ys.length cap'] w (RetBB v w) := by
  rw [← hv]
  exact equal_bb A A' cap cap' xs ys w h h' hl
def likeB (s s' : Bool) (xs ys xs' ys' : List Nat) : Bool := decide (s = s') && decide (xs = xs') && decide (ys = ys')
set_option maxRecDepth 100000 in
set_option maxHeartbeats 1000000 in
theorem like_sign (s s' : Bool) (A B A' B' : Option Addr) (c d c' d' : Nat) (xs ys xs' ys' : List Nat) (w : World) (hs : ¬ s = s') :
    Calls Try.prog 24 #[.agg #[.bool s, .slice A xs.length c, .slice B ys.length d], .agg #[.bool s', .slice A' xs'.length c', .slice B' ys'.length d']] w (RetBB false w) := by
  have hs1 : (s == s') = false := by simp [hs]
  obtain ⟨wa, hwa⟩ : ∃ wa, wa = (w.alloc (.cells #[.bool s, .slice A xs.length c, .slice B ys.length d] 25)).alloc (.cells #[.bool s', .slice A' xs'.length c', .slice B' ys'.length d'] 25) := ⟨_, rfl⟩
  have hbl : Below w.heap.size w wa := by rw [hwa]; exact bel_alloc (bel_alloc (bel_refl _) _) _
  have CX : Blk wa (w.heap.size) 25 #[.bool s, .slice A xs.length c, .slice B ys.length d] := by
    have hz := Blk.new (w) 25 #[.bool s, .slice A xs.length c, .slice B ys.length d]
    rw [hwa]
    exact (hz.alloc _)
  have CY : Blk wa (w.heap.size + 1) 25 #[.bool s', .slice A' xs'.length c', .slice B' ys'.length d'] := by
    have hz := Blk.new (w.alloc (.cells #[.bool s, .slice A xs.length c, .slice B ys.length d] 25)) 25 #[.bool s', .slice A' xs'.length c', .slice B' ys'.length d']
    rw [World.size_alloc] at hz
    rw [hwa]
    exact hz
  have HW := Lib.hid hbl; clear hbl
  replace CX := Lib.hid CX
  replace CY := Lib.hid CY
  go_enter Try.func24, Try.ntmps24
  have CX0 := CX.out.cell 0
  have CY0 := CY.out.cell 0
  rw [hwa] at CX0 CY0
  go_wp2
  go_ret
  rw [← hwa]
  exact ⟨rfl, HW.out⟩

set_option maxRecDepth 100000 in
set_option maxHeartbeats 1000000 in
theorem like_num (s s' : Bool) (A B A' B' : Option Addr) (c d c' d' : Nat) (xs ys xs' ys' : List Nat) (w : World) (hs : s = s') (h1 : RdL w A xs) (h2 : RdL w A' xs') (hl1 : xs.length ≤ 18) (hx : decide (xs = xs') = false) :
    Calls Try.prog 24 #[.agg #[.bool s, .slice A xs.length c, .slice B ys.length d], .agg #[.bool s', .slice A' xs'.length c', .slice B' ys'.length d']] w (RetBB false w) := by
  subst hs
  have hs1 : (s == s) = true := by simp
  have R1 := Lib.hid h1; clear h1
  have R2 := Lib.hid h2; clear h2
  have HX := Lib.hid hx; clear hx
  obtain ⟨wa, hwa⟩ : ∃ wa, wa = (w.alloc (.cells #[.bool s, .slice A xs.length c, .slice B ys.length d] 25)).alloc (.cells #[.bool s, .slice A' xs'.length c', .slice B' ys'.length d'] 25) := ⟨_, rfl⟩
  have hbl : Below w.heap.size w wa := by rw [hwa]; exact bel_alloc (bel_alloc (bel_refl _) _) _
  have CX : Blk wa (w.heap.size) 25 #[.bool s, .slice A xs.length c, .slice B ys.length d] := by
    have hz := Blk.new (w) 25 #[.bool s, .slice A xs.length c, .slice B ys.length d]
    rw [hwa]
    exact (hz.alloc _)
  have CY : Blk wa (w.heap.size + 1) 25 #[.bool s, .slice A' xs'.length c', .slice B' ys'.length d'] := by
    have hz := Blk.new (w.alloc (.cells #[.bool s, .slice A xs.length c, .slice B ys.length d] 25)) 25 #[.bool s, .slice A' xs'.length c', .slice B' ys'.length d']
    rw [World.size_alloc] at hz
    rw [hwa]
    exact hz
  replace R1 := Lib.hid (R1.out.below hbl)
  replace R2 := Lib.hid (R2.out.below hbl)
  have HW := Lib.hid hbl; clear hbl
  replace CX := Lib.hid CX
  replace CY := Lib.hid CY
  go_enter Try.func24, Try.ntmps24
  go_wp2_with fail
  rw [← hwa]
  clear hwa
  have CX0 : wa.cell? ⟨w.heap.size, 0, none⟩ = some (.bool s) := CX.out.cell 0
  have CX1 : wa.cell? ⟨w.heap.size, 1, none⟩ = some (.slice A xs.length c) := CX.out.cell 1
  have CX2 : wa.cell? ⟨w.heap.size, 2, none⟩ = some (.slice B ys.length d) := CX.out.cell 2
  have CY0 : wa.cell? ⟨w.heap.size + 1, 0, none⟩ = some (.bool s) := CY.out.cell 0
  have CY1 : wa.cell? ⟨w.heap.size + 1, 1, none⟩ = some (.slice A' xs'.length c') := CY.out.cell 1
  have CY2 : wa.cell? ⟨w.heap.size + 1, 2, none⟩ = some (.slice B' ys'.length d') := CY.out.cell 2
  refine (equal_is false A A' c c' xs xs' _ R1.out R2.out hl1 HX.out).mono ?_
  rintro e w1 ⟨rfl, hbl⟩
  replace R1 := Lib.hid (R1.out.below hbl)
  replace R2 := Lib.hid (R2.out.below hbl)
  replace CX := Lib.hid (CX.out.below hbl CX.out.lt)
  replace CY := Lib.hid (CY.out.below hbl CY.out.lt)
  replace HW := Lib.hid (bel_trans HW.out hbl); clear hbl
  clear CX0 CX1 CX2 CY0 CY1 CY2
  have CX0 : w1.cell? ⟨w.heap.size, 0, none⟩ = some (.bool s) := CX.out.cell 0
  have CX1 : w1.cell? ⟨w.heap.size, 1, none⟩ = some (.slice A xs.length c) := CX.out.cell 1
  have CX2 : w1.cell? ⟨w.heap.size, 2, none⟩ = some (.slice B ys.length d) := CX.out.cell 2
  have CY0 : w1.cell? ⟨w.heap.size + 1, 0, none⟩ = some (.bool s) := CY.out.cell 0
  have CY1 : w1.cell? ⟨w.heap.size + 1, 1, none⟩ = some (.slice A' xs'.length c') := CY.out.cell 1
  have CY2 : w1.cell? ⟨w.heap.size + 1, 2, none⟩ = some (.slice B' ys'.length d') := CY.out.cell 2
  go_wp2
  go_ret
  exact ⟨rfl, HW.out⟩

set_option maxRecDepth 100000 in
set_option maxHeartbeats 1000000 in
theorem like_den (v : Bool) (s s' : Bool) (A B A' B' : Option Addr) (c d c' d' : Nat) (xs ys xs' ys' : List Nat) (w : World) (hs : s = s') (h1 : RdL w A xs) (h2 : RdL w A' xs') (hl1 : xs.length ≤ 18) (h3 : RdL w B ys) (h4 : RdL w B' ys') (hl3 : ys.length ≤ 18) (hx : decide (xs = xs') = true) (hy : decide (ys = ys') = v) :
    Calls Try.prog 24 #[.agg #[.bool s, .slice A xs.length c, .slice B ys.length d], .agg #[.bool s', .slice A' xs'.length c', .slice B' ys'.length d']] w (RetBB v w) := by
  subst hs
  have hs1 : (s == s) = true := by simp
  have R1 := Lib.hid h1; clear h1
  have R2 := Lib.hid h2; clear h2
  have HX := Lib.hid hx; clear hx
  have R3 := Lib.hid h3; clear h3
  have R4 := Lib.hid h4; clear h4
  have HY := Lib.hid hy; clear hy
  obtain ⟨wa, hwa⟩ : ∃ wa, wa = (w.alloc (.cells #[.bool s, .slice A xs.length c, .slice B ys.length d] 25)).alloc (.cells #[.bool s, .slice A' xs'.length c', .slice B' ys'.length d'] 25) := ⟨_, rfl⟩
  have hbl : Below w.heap.size w wa := by rw [hwa]; exact bel_alloc (bel_alloc (bel_refl _) _) _
  have CX : Blk wa (w.heap.size) 25 #[.bool s, .slice A xs.length c, .slice B ys.length d] := by
    have hz := Blk.new (w) 25 #[.bool s, .slice A xs.length c, .slice B ys.length d]
    rw [hwa]
    exact (hz.alloc _)
  have CY : Blk wa (w.heap.size + 1) 25 #[.bool s, .slice A' xs'.length c', .slice B' ys'.length d'] := by
    have hz := Blk.new (w.alloc (.cells #[.bool s, .slice A xs.length c, .slice B ys.length d] 25)) 25 #[.bool s, .slice A' xs'.length c', .slice B' ys'.length d']
    rw [World.size_alloc] at hz
    rw [hwa]
    exact hz
  replace R1 := Lib.hid (R1.out.below hbl)
  replace R2 := Lib.hid (R2.out.below hbl)
  replace R3 := Lib.hid (R3.out.below hbl)
  replace R4 := Lib.hid (R4.out.below hbl)
  have HW := Lib.hid hbl; clear hbl
  replace CX := Lib.hid CX
  replace CY := Lib.hid CY
  go_enter Try.func24, Try.ntmps24
  go_wp2_with fail
  rw [← hwa]
  clear hwa
  have CX0 : wa.cell? ⟨w.heap.size, 0, none⟩ = some (.bool s) := CX.out.cell 0
  have CX1 : wa.cell? ⟨w.heap.size, 1, none⟩ = some (.slice A xs.length c) := CX.out.cell 1
  have CX2 : wa.cell? ⟨w.heap.size, 2, none⟩ = some (.slice B ys.length d) := CX.out.cell 2
  have CY0 : wa.cell? ⟨w.heap.size + 1, 0, none⟩ = some (.bool s) := CY.out.cell 0
  have CY1 : wa.cell? ⟨w.heap.size + 1, 1, none⟩ = some (.slice A' xs'.length c') := CY.out.cell 1
  have CY2 : wa.cell? ⟨w.heap.size + 1, 2, none⟩ = some (.slice B' ys'.length d') := CY.out.cell 2
  refine (equal_is true A A' c c' xs xs' _ R1.out R2.out hl1 HX.out).mono ?_
  rintro e w1 ⟨rfl, hbl⟩
  replace R1 := Lib.hid (R1.out.below hbl)
  replace R2 := Lib.hid (R2.out.below hbl)
  replace R3 := Lib.hid (R3.out.below hbl)
  replace R4 := Lib.hid (R4.out.below hbl)
  replace CX := Lib.hid (CX.out.below hbl CX.out.lt)
  replace CY := Lib.hid (CY.out.below hbl CY.out.lt)
  replace HW := Lib.hid (bel_trans HW.out hbl); clear hbl
  clear CX0 CX1 CX2 CY0 CY1 CY2
  have CX0 : w1.cell? ⟨w.heap.size, 0, none⟩ = some (.bool s) := CX.out.cell 0
  have CX1 : w1.cell? ⟨w.heap.size, 1, none⟩ = some (.slice A xs.length c) := CX.out.cell 1
  have CX2 : w1.cell? ⟨w.heap.size, 2, none⟩ = some (.slice B ys.length d) := CX.out.cell 2
  have CY0 : w1.cell? ⟨w.heap.size + 1, 0, none⟩ = some (.bool s) := CY.out.cell 0
  have CY1 : w1.cell? ⟨w.heap.size + 1, 1, none⟩ = some (.slice A' xs'.length c') := CY.out.cell 1
  have CY2 : w1.cell? ⟨w.heap.size + 1, 2, none⟩ = some (.slice B' ys'.length d') := CY.out.cell 2
  go_wp2_with fail
  refine (equal_is v B B' d d' ys ys' _ R3.out R4.out hl3 HY.out).mono ?_
  rintro e w2 ⟨rfl, hbl⟩
  replace R1 := Lib.hid (R1.out.below hbl)
  replace R2 := Lib.hid (R2.out.below hbl)
  replace R3 := Lib.hid (R3.out.below hbl)
  replace R4 := Lib.hid (R4.out.below hbl)
  replace CX := Lib.hid (CX.out.below hbl CX.out.lt)
  replace CY := Lib.hid (CY.out.below hbl CY.out.lt)
  replace HW := Lib.hid (bel_trans HW.out hbl); clear hbl
  clear CX0 CX1 CX2 CY0 CY1 CY2
  have CX0 : w2.cell? ⟨w.heap.size, 0, none⟩ = some (.bool s) := CX.out.cell 0
  have CX1 : w2.cell? ⟨w.heap.size, 1, none⟩ = some (.slice A xs.length c) := CX.out.cell 1
  have CX2 : w2.cell? ⟨w.heap.size, 2, none⟩ = some (.slice B ys.length d) := CX.out.cell 2
  have CY0 : w2.cell? ⟨w.heap.size + 1, 0, none⟩ = some (.bool s) := CY.out.cell 0
  have CY1 : w2.cell? ⟨w.heap.size + 1, 1, none⟩ = some (.slice A' xs'.length c') := CY.out.cell 1
  have CY2 : w2.cell? ⟨w.heap.size + 1, 2, none⟩ = some (.slice B' ys'.length d') := CY.out.cell 2
  go_wp2
  go_ret
  exact ⟨rfl, HW.out⟩

theorem like_any (s s' : Bool) (A B A' B' : Option Addr) (c d c' d' : Nat) (xs ys xs' ys' : List Nat) (w : World) (h1 : RdL w A xs) (h2 : RdL w A' xs') (hl1 : xs.length ≤ 18) (h3 : RdL w B ys) (h4 : RdL w B' ys') (hl3 : ys.length ≤ 18) :
    Calls Try.prog 24 #[.agg #[.bool s, .slice A xs.length c, .slice B ys.length d], .agg #[.bool s', .slice A' xs'.length c', .slice B' ys'.length d']] w (RetBB (likeB s s' xs ys xs' ys') w) := by
  unfold likeB
  by_cases hs : s = s'
  · rw [decide_eq_true hs]
    cases hx : decide (xs = xs')
    · exact like_num s s' A B A' B' c d c' d' xs ys xs' ys' w hs h1 h2 hl1 hx
    · cases hy : decide (ys = ys')
      · exact like_den false s s' A B A' B' c d c' d' xs ys xs' ys' w hs h1 h2 hl1 h3 h4 hl3 hx hy
      · exact like_den true s s' A B A' B' c d c' d' xs ys xs' ys' w hs h1 h2 hl1 h3 h4 hl3 hx hy
  · rw [decide_eq_false hs]
    exact like_sign s s' A B A' B' c d c' d' xs ys xs' ys' w hs
end
section
open Go.RowKit

/-- A fraction's text. -/
def qText (s : Bool) (n d : Nat) : ByteArray :=
  let o := if s then ⟨#[45]⟩ ++ dec n else dec n
  if d = 1 then o else o ++ (⟨#[47]⟩ ++ dec d)
theorem qText_t (n d : Nat) (h : d ≠ 1) : qText true n d = ⟨#[45]⟩ ++ dec n ++ (⟨#[47]⟩ ++ dec d) := by unfold qText; rw [if_neg h]; rfl
theorem qText_f (n d : Nat) (h : d ≠ 1) : qText false n d = dec n ++ (⟨#[47]⟩ ++ dec d) := by unfold qText; rw [if_neg h]; rfl
theorem qText_t1 (n : Nat) : qText true n 1 = ⟨#[45]⟩ ++ dec n := rfl
theorem qText_f1 (n : Nat) : qText false n 1 = dec n := rfl
theorem size_app (a b : ByteArray) : (a ++ b).size = a.size + b.size := ByteArray.size_append
theorem decide_limbs (n m : Nat) : decide (limbs n = limbs m) = decide (n = m) := by rw [decide_eq_decide]; exact limbs_inj
set_option maxRecDepth 100000 in
set_option maxHeartbeats 1000000 in
theorem rtext_bad (s : Bool) (A B : Option Addr) (c d : Nat) (xs ys : List Nat) (w : World) (h : RdL w A xs) (h' : RdL w B ys) (hx : Lim xs) (hy : Lim ys) (hl : xs.length ≤ 18) (hl' : ys.length ≤ 18) (hc : xs.length ≤ c) (hc' : ys.length ≤ d) (hr : rightB s xs ys = false) :
    Calls Try.prog 22 #[.agg #[.bool s, .slice A xs.length c, .slice B ys.length d]] w (RetSE ⟨#[]⟩ 1 w) := by
  have HL := Lib.hid (And.intro hx (And.intro hy (And.intro hc hc'))); clear hx hy hc hc'
  have HR := Lib.hid hr; clear hr
  have RA := Lib.hid h; clear h
  have RB := Lib.hid h'; clear h'
  obtain ⟨wa, hwa⟩ : ∃ wa, wa = w.alloc (.cells #[.bool s, .slice A xs.length c, .slice B ys.length d] 25) := ⟨_, rfl⟩
  have hbl : Below w.heap.size w wa := by rw [hwa]; exact bel_alloc (bel_refl _) _
  have CX : Blk wa (w.heap.size) 25 #[.bool s, .slice A xs.length c, .slice B ys.length d] := by
    have hz := Blk.new (w) 25 #[.bool s, .slice A xs.length c, .slice B ys.length d]
    rw [hwa]
    exact hz
  replace RA := Lib.hid (RA.out.below hbl)
  replace RB := Lib.hid (RB.out.below hbl)
  have HW := Lib.hid hbl; clear hbl
  replace CX := Lib.hid CX
  go_enter Try.func22, Try.ntmps22
  go_wp2_with fail
  rw [← hwa]
  clear hwa
  have CX0 : wa.cell? ⟨w.heap.size, 0, none⟩ = some (.bool s) := CX.out.cell 0
  have CX1 : wa.cell? ⟨w.heap.size, 1, none⟩ = some (.slice A xs.length c) := CX.out.cell 1
  have CX2 : wa.cell? ⟨w.heap.size, 2, none⟩ = some (.slice B ys.length d) := CX.out.cell 2
  refine (ratRight_any s A B c d xs ys _ RA.out RB.out HL.out.1 HL.out.2.1 hl hl' HL.out.2.2.1 HL.out.2.2.2).mono ?_
  rintro e w1 ⟨rfl, hbl⟩
  replace RA := Lib.hid (RA.out.below hbl)
  replace RB := Lib.hid (RB.out.below hbl)
  replace CX := Lib.hid (CX.out.below hbl CX.out.lt)
  replace HW := Lib.hid (bel_trans HW.out hbl); clear hbl
  clear CX0 CX1 CX2
  have CX0 : w1.cell? ⟨w.heap.size, 0, none⟩ = some (.bool s) := CX.out.cell 0
  have CX1 : w1.cell? ⟨w.heap.size, 1, none⟩ = some (.slice A xs.length c) := CX.out.cell 1
  have CX2 : w1.cell? ⟨w.heap.size, 2, none⟩ = some (.slice B ys.length d) := CX.out.cell 2
  rw [HR.out]
  go_wp2
  go_ret2
  exact ⟨rfl, HW.out⟩

set_option maxRecDepth 100000 in
set_option maxHeartbeats 1000000 in
theorem rtext_t1 (A B : Option Addr) (c e : Nat) (n d : Nat) (w : World) (h : RdL w A (limbs n)) (h' : RdL w B (limbs d)) (hc : (limbs n).length ≤ c) (hc' : (limbs d).length ≤ e) (hn : n < Top) (hd : d < Top) (hq : QR ⟨true, n, d⟩) (h1 : d = 1) :
    Calls Try.prog 22 #[.agg #[.bool true, .slice A (limbs n).length c, .slice B (limbs d).length e]] w (RetSE (qText true n d) 0 w) := by
  subst h1
  rw [qText_t1]

  have z1 : (dec n).size ≤ 160 := dec_len hn
  have z2 : (dec 1).size ≤ 160 := dec_len hd
  have sz1 : ¬ 9223372036854775807 < 1 + (dec n).size := by omega
  clear z1 z2
  have LA := Lib.hid (And.intro hn hc); clear hn hc
  have LB := Lib.hid (And.intro hd hc'); clear hd hc'
  have HQ := Lib.hid hq; clear hq
  have RA := Lib.hid h; clear h
  have RB := Lib.hid h'; clear h'
  obtain ⟨wa, hwa⟩ : ∃ wa, wa = w.alloc (.cells #[.bool true, .slice A (limbs n).length c, .slice B (limbs 1).length e] 25) := ⟨_, rfl⟩
  have hbl : Below w.heap.size w wa := by rw [hwa]; exact bel_alloc (bel_refl _) _
  have CX : Blk wa (w.heap.size) 25 #[.bool true, .slice A (limbs n).length c, .slice B (limbs 1).length e] := by
    have hz := Blk.new (w) 25 #[.bool true, .slice A (limbs n).length c, .slice B (limbs 1).length e]
    rw [hwa]
    exact hz
  replace RA := Lib.hid (RA.out.below hbl)
  replace RB := Lib.hid (RB.out.below hbl)
  have HW := Lib.hid hbl; clear hbl
  replace CX := Lib.hid CX
  go_enter Try.func22, Try.ntmps22
  go_wp2_with fail
  rw [← hwa]
  clear hwa
  have CX0 : wa.cell? ⟨w.heap.size, 0, none⟩ = some (.bool true) := CX.out.cell 0
  have CX1 : wa.cell? ⟨w.heap.size, 1, none⟩ = some (.slice A (limbs n).length c) := CX.out.cell 1
  have CX2 : wa.cell? ⟨w.heap.size, 2, none⟩ = some (.slice B (limbs 1).length e) := CX.out.cell 2
  refine (ratRight_q ⟨true, n, 1⟩ A B c e _ RA.out RB.out LA.out.2 LB.out.2 LA.out.1 LB.out.1 HQ.out).mono ?_
  rintro e w1 ⟨rfl, hbl⟩
  replace RA := Lib.hid (RA.out.below hbl)
  replace RB := Lib.hid (RB.out.below hbl)
  replace CX := Lib.hid (CX.out.below hbl CX.out.lt)
  replace HW := Lib.hid (bel_trans HW.out hbl); clear hbl
  clear CX0 CX1 CX2
  have CX0 : w1.cell? ⟨w.heap.size, 0, none⟩ = some (.bool true) := CX.out.cell 0
  have CX1 : w1.cell? ⟨w.heap.size, 1, none⟩ = some (.slice A (limbs n).length c) := CX.out.cell 1
  have CX2 : w1.cell? ⟨w.heap.size, 2, none⟩ = some (.slice B (limbs 1).length e) := CX.out.cell 2
  go_wp2_with fail
  refine (text_ok A c n _ RA.out LA.out.1).mono ?_
  rintro e w2 ⟨rfl, hbl⟩
  replace RA := Lib.hid (RA.out.below hbl)
  replace RB := Lib.hid (RB.out.below hbl)
  replace CX := Lib.hid (CX.out.below hbl CX.out.lt)
  replace HW := Lib.hid (bel_trans HW.out hbl); clear hbl
  clear CX0 CX1 CX2
  have CX0 : w2.cell? ⟨w.heap.size, 0, none⟩ = some (.bool true) := CX.out.cell 0
  have CX1 : w2.cell? ⟨w.heap.size, 1, none⟩ = some (.slice A (limbs n).length c) := CX.out.cell 1
  have CX2 : w2.cell? ⟨w.heap.size, 2, none⟩ = some (.slice B (limbs 1).length e) := CX.out.cell 2
  go_wp2_with fail
  go_region_held3 (fun w' => w'.cell? ⟨w.heap.size, 2, none⟩ = some (.slice B (limbs 1).length e) ∧ Below w2.heap.size w2 w')
    (first | exact ⟨CX2, (Below.refl _ _).drew⟩ | exact ⟨(CX.out.below hb2 CX.out.lt).cell 2, hb2⟩)
    (first
      | (go_at_call 60; have hH := ‹_ ∧ Below _ _ _›; (with_reducible refine (one_any _).mono ?_); rintro e w61 ⟨vo, rfl, hno, hbx⟩; have hb2 := bel_trans hH.2 hbx; obtain ⟨Ao, co, rfl, hco, hro⟩ := hno; clear hco; have Ro := Lib.hid hro; clear hro)
      | (go_at_call 59; have hH := ‹_ ∧ Below _ _ _›; (with_reducible refine (equal_is true B Ao e co (limbs 1) (limbs 1) _ (RB.out.below hH.2) Ro.out (len18 LB.out.1) (decide_eq_true rfl)).mono ?_); rintro e w62 ⟨rfl, hbx⟩; have hb2 := bel_trans hH.2 hbx))
  have hH := ‹_ ∧ Below _ _ _›
  have hbl := hH.2
  replace RA := Lib.hid (RA.out.below hbl)
  replace RB := Lib.hid (RB.out.below hbl)
  replace CX := Lib.hid (CX.out.below hbl CX.out.lt)
  replace HW := Lib.hid (bel_trans HW.out hbl); clear hbl
  clear CX0 CX1 CX2
  have CX0 : w62.cell? ⟨w.heap.size, 0, none⟩ = some (.bool true) := CX.out.cell 0
  have CX1 : w62.cell? ⟨w.heap.size, 1, none⟩ = some (.slice A (limbs n).length c) := CX.out.cell 1
  have CX2 : w62.cell? ⟨w.heap.size, 2, none⟩ = some (.slice B (limbs 1).length e) := CX.out.cell 2
  go_wp2
  go_ret2
  exact ⟨rfl, HW.out⟩

set_option maxRecDepth 100000 in
set_option maxHeartbeats 1000000 in
theorem rtext_td (A B : Option Addr) (c e : Nat) (n d : Nat) (w : World) (h : RdL w A (limbs n)) (h' : RdL w B (limbs d)) (hc : (limbs n).length ≤ c) (hc' : (limbs d).length ≤ e) (hn : n < Top) (hd : d < Top) (hq : QR ⟨true, n, d⟩) (h1 : d ≠ 1) :
    Calls Try.prog 22 #[.agg #[.bool true, .slice A (limbs n).length c, .slice B (limbs d).length e]] w (RetSE (qText true n d) 0 w) := by
  rw [qText_t n d h1]
  have HD := Lib.hid (show decide (limbs d = limbs 1) = false by rw [decide_limbs]; exact decide_eq_false h1); clear h1
  have z1 : (dec n).size ≤ 160 := dec_len hn
  have z2 : (dec d).size ≤ 160 := dec_len hd
  have sz1 : ¬ 9223372036854775807 < 1 + (dec n).size := by omega
  have sz2 : ¬ 9223372036854775807 < 1 + (dec d).size := by omega
  have sz3 : ¬ 9223372036854775807 < (dec n).size + (1 + (dec d).size) := by omega
  have sz4 : ¬ 9223372036854775807 < 1 + (dec n).size + (1 + (dec d).size) := by omega
  clear z1 z2
  have LA := Lib.hid (And.intro hn hc); clear hn hc
  have LB := Lib.hid (And.intro hd hc'); clear hd hc'
  have HQ := Lib.hid hq; clear hq
  have RA := Lib.hid h; clear h
  have RB := Lib.hid h'; clear h'
  obtain ⟨wa, hwa⟩ : ∃ wa, wa = w.alloc (.cells #[.bool true, .slice A (limbs n).length c, .slice B (limbs d).length e] 25) := ⟨_, rfl⟩
  have hbl : Below w.heap.size w wa := by rw [hwa]; exact bel_alloc (bel_refl _) _
  have CX : Blk wa (w.heap.size) 25 #[.bool true, .slice A (limbs n).length c, .slice B (limbs d).length e] := by
    have hz := Blk.new (w) 25 #[.bool true, .slice A (limbs n).length c, .slice B (limbs d).length e]
    rw [hwa]
    exact hz
  replace RA := Lib.hid (RA.out.below hbl)
  replace RB := Lib.hid (RB.out.below hbl)
  have HW := Lib.hid hbl; clear hbl
  replace CX := Lib.hid CX
  go_enter Try.func22, Try.ntmps22
  go_wp2_with fail
  rw [← hwa]
  clear hwa
  have CX0 : wa.cell? ⟨w.heap.size, 0, none⟩ = some (.bool true) := CX.out.cell 0
  have CX1 : wa.cell? ⟨w.heap.size, 1, none⟩ = some (.slice A (limbs n).length c) := CX.out.cell 1
  have CX2 : wa.cell? ⟨w.heap.size, 2, none⟩ = some (.slice B (limbs d).length e) := CX.out.cell 2
  refine (ratRight_q ⟨true, n, d⟩ A B c e _ RA.out RB.out LA.out.2 LB.out.2 LA.out.1 LB.out.1 HQ.out).mono ?_
  rintro e w1 ⟨rfl, hbl⟩
  replace RA := Lib.hid (RA.out.below hbl)
  replace RB := Lib.hid (RB.out.below hbl)
  replace CX := Lib.hid (CX.out.below hbl CX.out.lt)
  replace HW := Lib.hid (bel_trans HW.out hbl); clear hbl
  clear CX0 CX1 CX2
  have CX0 : w1.cell? ⟨w.heap.size, 0, none⟩ = some (.bool true) := CX.out.cell 0
  have CX1 : w1.cell? ⟨w.heap.size, 1, none⟩ = some (.slice A (limbs n).length c) := CX.out.cell 1
  have CX2 : w1.cell? ⟨w.heap.size, 2, none⟩ = some (.slice B (limbs d).length e) := CX.out.cell 2
  go_wp2_with fail
  refine (text_ok A c n _ RA.out LA.out.1).mono ?_
  rintro e w2 ⟨rfl, hbl⟩
  replace RA := Lib.hid (RA.out.below hbl)
  replace RB := Lib.hid (RB.out.below hbl)
  replace CX := Lib.hid (CX.out.below hbl CX.out.lt)
  replace HW := Lib.hid (bel_trans HW.out hbl); clear hbl
  clear CX0 CX1 CX2
  have CX0 : w2.cell? ⟨w.heap.size, 0, none⟩ = some (.bool true) := CX.out.cell 0
  have CX1 : w2.cell? ⟨w.heap.size, 1, none⟩ = some (.slice A (limbs n).length c) := CX.out.cell 1
  have CX2 : w2.cell? ⟨w.heap.size, 2, none⟩ = some (.slice B (limbs d).length e) := CX.out.cell 2
  go_wp2_with fail
  go_region_held3 (fun w' => w'.cell? ⟨w.heap.size, 2, none⟩ = some (.slice B (limbs d).length e) ∧ Below w2.heap.size w2 w')
    (first | exact ⟨CX2, (Below.refl _ _).drew⟩ | exact ⟨(CX.out.below hb2 CX.out.lt).cell 2, hb2⟩)
    (first
      | (go_at_call 60; have hH := ‹_ ∧ Below _ _ _›; (with_reducible refine (one_any _).mono ?_); rintro e w61 ⟨vo, rfl, hno, hbx⟩; have hb2 := bel_trans hH.2 hbx; obtain ⟨Ao, co, rfl, hco, hro⟩ := hno; clear hco; have Ro := Lib.hid hro; clear hro)
      | (go_at_call 59; have hH := ‹_ ∧ Below _ _ _›; (with_reducible refine (equal_is false B Ao e co (limbs d) (limbs 1) _ (RB.out.below hH.2) Ro.out (len18 LB.out.1) HD.out).mono ?_); rintro e w62 ⟨rfl, hbx⟩; have hb2 := bel_trans hH.2 hbx))
  have hH := ‹_ ∧ Below _ _ _›
  have hbl := hH.2
  replace RA := Lib.hid (RA.out.below hbl)
  replace RB := Lib.hid (RB.out.below hbl)
  replace CX := Lib.hid (CX.out.below hbl CX.out.lt)
  replace HW := Lib.hid (bel_trans HW.out hbl); clear hbl
  clear CX0 CX1 CX2
  have CX0 : w62.cell? ⟨w.heap.size, 0, none⟩ = some (.bool true) := CX.out.cell 0
  have CX1 : w62.cell? ⟨w.heap.size, 1, none⟩ = some (.slice A (limbs n).length c) := CX.out.cell 1
  have CX2 : w62.cell? ⟨w.heap.size, 2, none⟩ = some (.slice B (limbs d).length e) := CX.out.cell 2
  go_wp2_with fail
  refine (text_ok B e d _ RB.out LB.out.1).mono ?_
  rintro e w3 ⟨rfl, hbl⟩
  replace RA := Lib.hid (RA.out.below hbl)
  replace RB := Lib.hid (RB.out.below hbl)
  replace CX := Lib.hid (CX.out.below hbl CX.out.lt)
  replace HW := Lib.hid (bel_trans HW.out hbl); clear hbl
  clear CX0 CX1 CX2
  have CX0 : w3.cell? ⟨w.heap.size, 0, none⟩ = some (.bool true) := CX.out.cell 0
  have CX1 : w3.cell? ⟨w.heap.size, 1, none⟩ = some (.slice A (limbs n).length c) := CX.out.cell 1
  have CX2 : w3.cell? ⟨w.heap.size, 2, none⟩ = some (.slice B (limbs d).length e) := CX.out.cell 2
  go_wp2
  go_ret2
  exact ⟨rfl, HW.out⟩

set_option maxRecDepth 100000 in
set_option maxHeartbeats 1000000 in
theorem rtext_f1 (A B : Option Addr) (c e : Nat) (n d : Nat) (w : World) (h : RdL w A (limbs n)) (h' : RdL w B (limbs d)) (hc : (limbs n).length ≤ c) (hc' : (limbs d).length ≤ e) (hn : n < Top) (hd : d < Top) (hq : QR ⟨false, n, d⟩) (h1 : d = 1) :
    Calls Try.prog 22 #[.agg #[.bool false, .slice A (limbs n).length c, .slice B (limbs d).length e]] w (RetSE (qText false n d) 0 w) := by
  subst h1
  rw [qText_f1]

  have z1 : (dec n).size ≤ 160 := dec_len hn
  have z2 : (dec 1).size ≤ 160 := dec_len hd
  have sz1 : ¬ 9223372036854775807 < 1 + (dec n).size := by omega
  clear z1 z2
  have LA := Lib.hid (And.intro hn hc); clear hn hc
  have LB := Lib.hid (And.intro hd hc'); clear hd hc'
  have HQ := Lib.hid hq; clear hq
  have RA := Lib.hid h; clear h
  have RB := Lib.hid h'; clear h'
  obtain ⟨wa, hwa⟩ : ∃ wa, wa = w.alloc (.cells #[.bool false, .slice A (limbs n).length c, .slice B (limbs 1).length e] 25) := ⟨_, rfl⟩
  have hbl : Below w.heap.size w wa := by rw [hwa]; exact bel_alloc (bel_refl _) _
  have CX : Blk wa (w.heap.size) 25 #[.bool false, .slice A (limbs n).length c, .slice B (limbs 1).length e] := by
    have hz := Blk.new (w) 25 #[.bool false, .slice A (limbs n).length c, .slice B (limbs 1).length e]
    rw [hwa]
    exact hz
  replace RA := Lib.hid (RA.out.below hbl)
  replace RB := Lib.hid (RB.out.below hbl)
  have HW := Lib.hid hbl; clear hbl
  replace CX := Lib.hid CX
  go_enter Try.func22, Try.ntmps22
  go_wp2_with fail
  rw [← hwa]
  clear hwa
  have CX0 : wa.cell? ⟨w.heap.size, 0, none⟩ = some (.bool false) := CX.out.cell 0
  have CX1 : wa.cell? ⟨w.heap.size, 1, none⟩ = some (.slice A (limbs n).length c) := CX.out.cell 1
  have CX2 : wa.cell? ⟨w.heap.size, 2, none⟩ = some (.slice B (limbs 1).length e) := CX.out.cell 2
  refine (ratRight_q ⟨false, n, 1⟩ A B c e _ RA.out RB.out LA.out.2 LB.out.2 LA.out.1 LB.out.1 HQ.out).mono ?_
  rintro e w1 ⟨rfl, hbl⟩
  replace RA := Lib.hid (RA.out.below hbl)
  replace RB := Lib.hid (RB.out.below hbl)
  replace CX := Lib.hid (CX.out.below hbl CX.out.lt)
  replace HW := Lib.hid (bel_trans HW.out hbl); clear hbl
  clear CX0 CX1 CX2
  have CX0 : w1.cell? ⟨w.heap.size, 0, none⟩ = some (.bool false) := CX.out.cell 0
  have CX1 : w1.cell? ⟨w.heap.size, 1, none⟩ = some (.slice A (limbs n).length c) := CX.out.cell 1
  have CX2 : w1.cell? ⟨w.heap.size, 2, none⟩ = some (.slice B (limbs 1).length e) := CX.out.cell 2
  go_wp2_with fail
  refine (text_ok A c n _ RA.out LA.out.1).mono ?_
  rintro e w2 ⟨rfl, hbl⟩
  replace RA := Lib.hid (RA.out.below hbl)
  replace RB := Lib.hid (RB.out.below hbl)
  replace CX := Lib.hid (CX.out.below hbl CX.out.lt)
  replace HW := Lib.hid (bel_trans HW.out hbl); clear hbl
  clear CX0 CX1 CX2
  have CX0 : w2.cell? ⟨w.heap.size, 0, none⟩ = some (.bool false) := CX.out.cell 0
  have CX1 : w2.cell? ⟨w.heap.size, 1, none⟩ = some (.slice A (limbs n).length c) := CX.out.cell 1
  have CX2 : w2.cell? ⟨w.heap.size, 2, none⟩ = some (.slice B (limbs 1).length e) := CX.out.cell 2
  go_wp2_with fail
  go_region_held3 (fun w' => w'.cell? ⟨w.heap.size, 2, none⟩ = some (.slice B (limbs 1).length e) ∧ Below w2.heap.size w2 w')
    (first | exact ⟨CX2, (Below.refl _ _).drew⟩ | exact ⟨(CX.out.below hb2 CX.out.lt).cell 2, hb2⟩)
    (first
      | (go_at_call 60; have hH := ‹_ ∧ Below _ _ _›; (with_reducible refine (one_any _).mono ?_); rintro e w61 ⟨vo, rfl, hno, hbx⟩; have hb2 := bel_trans hH.2 hbx; obtain ⟨Ao, co, rfl, hco, hro⟩ := hno; clear hco; have Ro := Lib.hid hro; clear hro)
      | (go_at_call 59; have hH := ‹_ ∧ Below _ _ _›; (with_reducible refine (equal_is true B Ao e co (limbs 1) (limbs 1) _ (RB.out.below hH.2) Ro.out (len18 LB.out.1) (decide_eq_true rfl)).mono ?_); rintro e w62 ⟨rfl, hbx⟩; have hb2 := bel_trans hH.2 hbx))
  have hH := ‹_ ∧ Below _ _ _›
  have hbl := hH.2
  replace RA := Lib.hid (RA.out.below hbl)
  replace RB := Lib.hid (RB.out.below hbl)
  replace CX := Lib.hid (CX.out.below hbl CX.out.lt)
  replace HW := Lib.hid (bel_trans HW.out hbl); clear hbl
  clear CX0 CX1 CX2
  have CX0 : w62.cell? ⟨w.heap.size, 0, none⟩ = some (.bool false) := CX.out.cell 0
  have CX1 : w62.cell? ⟨w.heap.size, 1, none⟩ = some (.slice A (limbs n).length c) := CX.out.cell 1
  have CX2 : w62.cell? ⟨w.heap.size, 2, none⟩ = some (.slice B (limbs 1).length e) := CX.out.cell 2
  go_wp2
  go_ret2
  exact ⟨rfl, HW.out⟩

set_option maxRecDepth 100000 in
set_option maxHeartbeats 1000000 in
theorem rtext_fd (A B : Option Addr) (c e : Nat) (n d : Nat) (w : World) (h : RdL w A (limbs n)) (h' : RdL w B (limbs d)) (hc : (limbs n).length ≤ c) (hc' : (limbs d).length ≤ e) (hn : n < Top) (hd : d < Top) (hq : QR ⟨false, n, d⟩) (h1 : d ≠ 1) :
    Calls Try.prog 22 #[.agg #[.bool false, .slice A (limbs n).length c, .slice B (limbs d).length e]] w (RetSE (qText false n d) 0 w) := by
  rw [qText_f n d h1]
  have HD := Lib.hid (show decide (limbs d = limbs 1) = false by rw [decide_limbs]; exact decide_eq_false h1); clear h1
  have z1 : (dec n).size ≤ 160 := dec_len hn
  have z2 : (dec d).size ≤ 160 := dec_len hd
  have sz1 : ¬ 9223372036854775807 < 1 + (dec n).size := by omega
  have sz2 : ¬ 9223372036854775807 < 1 + (dec d).size := by omega
  have sz3 : ¬ 9223372036854775807 < (dec n).size + (1 + (dec d).size) := by omega
  have sz4 : ¬ 9223372036854775807 < 1 + (dec n).size + (1 + (dec d).size) := by omega
  clear z1 z2
  have LA := Lib.hid (And.intro hn hc); clear hn hc
  have LB := Lib.hid (And.intro hd hc'); clear hd hc'
  have HQ := Lib.hid hq; clear hq
  have RA := Lib.hid h; clear h
  have RB := Lib.hid h'; clear h'
  obtain ⟨wa, hwa⟩ : ∃ wa, wa = w.alloc (.cells #[.bool false, .slice A (limbs n).length c, .slice B (limbs d).length e] 25) := ⟨_, rfl⟩
  have hbl : Below w.heap.size w wa := by rw [hwa]; exact bel_alloc (bel_refl _) _
  have CX : Blk wa (w.heap.size) 25 #[.bool false, .slice A (limbs n).length c, .slice B (limbs d).length e] := by
    have hz := Blk.new (w) 25 #[.bool false, .slice A (limbs n).length c, .slice B (limbs d).length e]
    rw [hwa]
    exact hz
  replace RA := Lib.hid (RA.out.below hbl)
  replace RB := Lib.hid (RB.out.below hbl)
  have HW := Lib.hid hbl; clear hbl
  replace CX := Lib.hid CX
  go_enter Try.func22, Try.ntmps22
  go_wp2_with fail
  rw [← hwa]
  clear hwa
  have CX0 : wa.cell? ⟨w.heap.size, 0, none⟩ = some (.bool false) := CX.out.cell 0
  have CX1 : wa.cell? ⟨w.heap.size, 1, none⟩ = some (.slice A (limbs n).length c) := CX.out.cell 1
  have CX2 : wa.cell? ⟨w.heap.size, 2, none⟩ = some (.slice B (limbs d).length e) := CX.out.cell 2
  refine (ratRight_q ⟨false, n, d⟩ A B c e _ RA.out RB.out LA.out.2 LB.out.2 LA.out.1 LB.out.1 HQ.out).mono ?_
  rintro e w1 ⟨rfl, hbl⟩
  replace RA := Lib.hid (RA.out.below hbl)
  replace RB := Lib.hid (RB.out.below hbl)
  replace CX := Lib.hid (CX.out.below hbl CX.out.lt)
  replace HW := Lib.hid (bel_trans HW.out hbl); clear hbl
  clear CX0 CX1 CX2
  have CX0 : w1.cell? ⟨w.heap.size, 0, none⟩ = some (.bool false) := CX.out.cell 0
  have CX1 : w1.cell? ⟨w.heap.size, 1, none⟩ = some (.slice A (limbs n).length c) := CX.out.cell 1
  have CX2 : w1.cell? ⟨w.heap.size, 2, none⟩ = some (.slice B (limbs d).length e) := CX.out.cell 2
  go_wp2_with fail
  refine (text_ok A c n _ RA.out LA.out.1).mono ?_
  rintro e w2 ⟨rfl, hbl⟩
  replace RA := Lib.hid (RA.out.below hbl)
  replace RB := Lib.hid (RB.out.below hbl)
  replace CX := Lib.hid (CX.out.below hbl CX.out.lt)
  replace HW := Lib.hid (bel_trans HW.out hbl); clear hbl
  clear CX0 CX1 CX2
  have CX0 : w2.cell? ⟨w.heap.size, 0, none⟩ = some (.bool false) := CX.out.cell 0
  have CX1 : w2.cell? ⟨w.heap.size, 1, none⟩ = some (.slice A (limbs n).length c) := CX.out.cell 1
  have CX2 : w2.cell? ⟨w.heap.size, 2, none⟩ = some (.slice B (limbs d).length e) := CX.out.cell 2
  go_wp2_with fail
  go_region_held3 (fun w' => w'.cell? ⟨w.heap.size, 2, none⟩ = some (.slice B (limbs d).length e) ∧ Below w2.heap.size w2 w')
    (first | exact ⟨CX2, (Below.refl _ _).drew⟩ | exact ⟨(CX.out.below hb2 CX.out.lt).cell 2, hb2⟩)
    (first
      | (go_at_call 60; have hH := ‹_ ∧ Below _ _ _›; (with_reducible refine (one_any _).mono ?_); rintro e w61 ⟨vo, rfl, hno, hbx⟩; have hb2 := bel_trans hH.2 hbx; obtain ⟨Ao, co, rfl, hco, hro⟩ := hno; clear hco; have Ro := Lib.hid hro; clear hro)
      | (go_at_call 59; have hH := ‹_ ∧ Below _ _ _›; (with_reducible refine (equal_is false B Ao e co (limbs d) (limbs 1) _ (RB.out.below hH.2) Ro.out (len18 LB.out.1) HD.out).mono ?_); rintro e w62 ⟨rfl, hbx⟩; have hb2 := bel_trans hH.2 hbx))
  have hH := ‹_ ∧ Below _ _ _›
  have hbl := hH.2
  replace RA := Lib.hid (RA.out.below hbl)
  replace RB := Lib.hid (RB.out.below hbl)
  replace CX := Lib.hid (CX.out.below hbl CX.out.lt)
  replace HW := Lib.hid (bel_trans HW.out hbl); clear hbl
  clear CX0 CX1 CX2
  have CX0 : w62.cell? ⟨w.heap.size, 0, none⟩ = some (.bool false) := CX.out.cell 0
  have CX1 : w62.cell? ⟨w.heap.size, 1, none⟩ = some (.slice A (limbs n).length c) := CX.out.cell 1
  have CX2 : w62.cell? ⟨w.heap.size, 2, none⟩ = some (.slice B (limbs d).length e) := CX.out.cell 2
  go_wp2_with fail
  refine (text_ok B e d _ RB.out LB.out.1).mono ?_
  rintro e w3 ⟨rfl, hbl⟩
  replace RA := Lib.hid (RA.out.below hbl)
  replace RB := Lib.hid (RB.out.below hbl)
  replace CX := Lib.hid (CX.out.below hbl CX.out.lt)
  replace HW := Lib.hid (bel_trans HW.out hbl); clear hbl
  clear CX0 CX1 CX2
  have CX0 : w3.cell? ⟨w.heap.size, 0, none⟩ = some (.bool false) := CX.out.cell 0
  have CX1 : w3.cell? ⟨w.heap.size, 1, none⟩ = some (.slice A (limbs n).length c) := CX.out.cell 1
  have CX2 : w3.cell? ⟨w.heap.size, 2, none⟩ = some (.slice B (limbs d).length e) := CX.out.cell 2
  go_wp2
  go_ret2
  exact ⟨rfl, HW.out⟩

theorem rtext_q (q : Q) (A B : Option Addr) (c d : Nat) (w : World) (h : RdL w A (limbs q.n)) (h' : RdL w B (limbs q.d)) (hc : (limbs q.n).length ≤ c) (hc' : (limbs q.d).length ≤ d) (hn : q.n < Top) (hd : q.d < Top) (hq : QR q) :
    Calls Try.prog 22 #[.agg #[.bool q.s, .slice A (limbs q.n).length c, .slice B (limbs q.d).length d]] w (RetSE (qText q.s q.n q.d) 0 w) := by
  obtain ⟨s, n, e⟩ := q
  by_cases h1 : e = 1
  · cases s
    · exact rtext_f1 A B c d n e w h h' hc hc' hn hd hq h1
    · exact rtext_t1 A B c d n e w h h' hc hc' hn hd hq h1
  · cases s
    · exact rtext_fd A B c d n e w h h' hc hc' hn hd hq h1
    · exact rtext_td A B c d n e w h h' hc hc' hn hd hq h1
end
section
open Go.RowKit

/-- The error that is panicked. -/
def bad (c : Int) : PanicEntry := { v := .iface 28 (.int .i64 c), recovered := false }
set_option maxRecDepth 100000 in
set_option maxHeartbeats 1000000 in
theorem told_idle (p q : Addr) (w : World) :
    CallsD Try.prog 64 #[.pointer (some p), .pointer (some q)] .returning w fun e u' w' => e = .returned (.tuple #[]) ∧ u' = .returning ∧ w' = w := by
  refine callsD_of_wpS Try.func64 rfl fun c₀ cs hu => ?_
  apply wpS_seq
  apply wpS_region
  simp [wpOpsS, go_sem, recoverD, hu, Try.ntmps64, Exit.thenS]
  refine wpS_of_wp ?_
  simp only [Array.replicate_succ, Array.replicate_zero, List.push_toArray, List.append_toArray, List.nil_append, List.cons_append, List.setIfInBounds_toArray, List.set_cons_succ, List.set_cons_zero]
  go_wp2
  cases c₀
  simp_all [bodyPostS, results, Try.results64]
theorem as_errno (c : Int) (W : World) : (Instr.typeAssert (.iface 28 (.int .i64 c)) 20 28 true).run Try.prog W = .ok (.tuple #[.int .i64 c, .bool true]) W := by kernel_rfl
set_option maxRecDepth 100000 in
set_option maxHeartbeats 1000000 in
theorem told_caught (g g' : Nat) (c : Int) (older : List PanicEntry) (a0 a1 a2 : Value) (b0 : Value) (w : World) (h0 : w.cell? ⟨g, 0, none⟩ = some a0) (h1 : w.cell? ⟨g, 1, none⟩ = some a1) (h2 : w.cell? ⟨g, 2, none⟩ = some a2)
    (h3 : w.cell? ⟨g', 0, none⟩ = some b0) (f0 : w.frozen? ⟨g, 0, none⟩ = false) (f1 : w.frozen? ⟨g, 1, none⟩ = false) (f2 : w.frozen? ⟨g, 2, none⟩ = false) (f3 : w.frozen? ⟨g', 0, none⟩ = false) (hg : g' ≠ g) :
    CallsD Try.prog 64 #[.pointer (some ⟨g, 0, none⟩), .pointer (some ⟨g', 0, none⟩)] (.panicking ({ v := .iface 28 (.int .i64 c), recovered := false } :: older)) w fun e u' w' =>
      e = .returned (.tuple #[]) ∧ u' = .panicking ({ v := .iface 28 (.int .i64 c), recovered := true } :: older) ∧
      w' = (((w.setCell ⟨g, 0, none⟩ (.bool false)).setCell ⟨g, 1, none⟩ (.slice none 0 0)).setCell ⟨g, 2, none⟩ (.slice none 0 0)).setCell ⟨g', 0, none⟩ (.int .i64 c) := by
  have ha := fun W => as_errno c W
  refine callsD_of_wpS Try.func64 rfl fun c₀ cs hu => ?_
  apply wpS_seq
  apply wpS_region
  simp [wpOpsS, go_sem, recoverD, hu, Try.ntmps64, Exit.thenS]
  refine wpS_of_wp ?_
  simp only [Array.replicate_succ, Array.replicate_zero, List.push_toArray, List.append_toArray, List.nil_append, List.cons_append, List.setIfInBounds_toArray, List.set_cons_succ, List.set_cons_zero]
  go_wp2
  cases c₀
  simp_all [bodyPostS, results, Try.results64]

theorem must_ok (v : Value) (w : World) : Calls Try.prog 65 #[v, .int .i64 0] w fun e w' => e = .returned v ∧ w' = w := by
  go_enter Try.func65, Try.ntmps65
  go_wp2
  go_ret
  exact ⟨rfl, rfl⟩
theorem must_bad (v : Value) (c : Int) (w : World) (hc : ¬ c = 0) : Calls Try.prog 65 #[v, .int .i64 c] w fun e w' => e = .panicked [bad c] ∧ w' = w := by
  have hc2 : (c != 0) = true := by simpa using hc
  go_enter Try.func65, Try.ntmps65
  go_wp2
  exact ⟨rfl, rfl, rfl⟩
end
section
open Go.RowKit

theorem must_bb (v : Value) (w : World) : Calls Try.prog 65 #[v, .int .i64 0] w fun e w' => e = .returned v ∧ Below w.heap.size w w' :=
  (must_ok v w).mono fun _ _ h => ⟨h.1, by rw [h.2]; exact bel_refl _⟩
/-- It panics with an error. -/
def RetBad (c : Int) (w : World) (e : Ending) (w' : World) : Prop := e = .panicked [bad c] ∧ Below w.heap.size w w'
theorem must_pp (v : Value) (c : Int) (w : World) (hc : ¬ c = 0) : Calls Try.prog 65 #[v, .int .i64 c] w (RetBad c w) :=
  (must_bad v c w hc).mono fun _ _ h => ⟨h.1, by rw [h.2]; exact bel_refl _⟩
theorem sub_small (A A' : Option Addr) (cap cap' : Nat) (a b : Nat) (w : World) (h : RdL w A (limbs a)) (h' : RdL w A' (limbs b)) (ha : a < Top) (hb : b < Top) (hab : b ≤ a) :
    Calls Try.prog 100 #[.slice A (limbs a).length cap, .slice A' (limbs b).length cap'] w (RetNE (a - b) 0 w) :=
  (sub_num A A' cap cap' a b w h h' ha hb).mono fun _ _ h => h.of rfl (by unfold subC; rw [if_neg (by omega)])
theorem add_over (A A' : Option Addr) (cap cap' : Nat) (a b : Nat) (w : World) (h : RdL w A (limbs a)) (h' : RdL w A' (limbs b)) (ha : a < Top) (hb : b < Top) (hab : ¬ a + b < Top) :
    Calls Try.prog 99 #[.slice A (limbs a).length cap, .slice A' (limbs b).length cap'] w (RetNE 0 2 w) :=
  (add_num A A' cap cap' a b w h h' ha hb).mono fun _ _ h => h.of (by unfold fitN; rw [if_neg hab]) (by unfold fitC; rw [if_neg hab])
set_option maxRecDepth 100000 in
set_option maxHeartbeats 1000000 in
theorem sum_same {q : Q} (s : Bool) (A B E : Option Addr) (c d k : Nat) (x y den : Nat) (w : World) (h : RdL w A (limbs x)) (h' : RdL w B (limbs y)) (h3 : RdL w E (limbs den)) (hc : (limbs x).length ≤ c) (hc' : (limbs y).length ≤ d) (hc3 : (limbs den).length ≤ k) (hx : x < Top) (hy : y < Top) (hd : den < Top) (hd0 : den ≠ 0) (hxy : x + y < Top) (hq : redQ s (x + y) den = q) :
    Calls Try.prog 91 #[.bool s, .bool s, .slice A (limbs x).length c, .slice B (limbs y).length d, .slice E (limbs den).length k] w (RetQ q w) := by
  have e1 : (s == s) = true := by simp
  have LA := Lib.hid (And.intro hx hc); clear hx hc
  have LB := Lib.hid (And.intro hy hc'); clear hy hc'
  have LD := Lib.hid (And.intro hd (And.intro hc3 hd0)); clear hd hc3 hd0
  have HXY := Lib.hid hxy; clear hxy
  have HQ := Lib.hid hq; clear hq
  have RA := Lib.hid h; clear h
  have RB := Lib.hid h'; clear h'
  have RE := Lib.hid h3; clear h3
  obtain ⟨wa, hwa⟩ : ∃ wa, wa = w.alloc (.cells #[.bool false, .slice none 0 0, .slice none 0 0] 25) := ⟨_, rfl⟩
  have hbl : Below w.heap.size w wa := by rw [hwa]; exact bel_alloc (bel_refl _) _
  have RES : Blk wa (w.heap.size) 25 #[.bool false, .slice none 0 0, .slice none 0 0] := by
    have hz := Blk.new (w) 25 #[.bool false, .slice none 0 0, .slice none 0 0]
    rw [hwa]
    exact hz
  replace RA := Lib.hid (RA.out.below hbl)
  replace RB := Lib.hid (RB.out.below hbl)
  replace RE := Lib.hid (RE.out.below hbl)
  have HW := Lib.hid hbl; clear hbl
  replace RES := Lib.hid RES
  go_enter Try.func91, Try.ntmps91
  go_wp2_with fail
  rw [← hwa]
  clear hwa
  refine (add_small A B c d x y (x + y) _ RA.out RB.out LA.out.1 LB.out.1 rfl HXY.out).mono ?_
  rintro e w1 ⟨va, rfl, hna, hbl⟩
  replace RA := Lib.hid (RA.out.below hbl)
  replace RB := Lib.hid (RB.out.below hbl)
  replace RE := Lib.hid (RE.out.below hbl)
  replace RES := Lib.hid (RES.out.below hbl RES.out.lt)
  replace HW := Lib.hid (bel_trans HW.out hbl); clear hbl
  have HNa := Lib.hid hna; clear hna
  obtain ⟨Aa, ca, rfl, hca, hra⟩ := HNa.out.row
  have Ra := Lib.hid hra; have HCa := Lib.hid hca; clear hra hca
  go_wp2_with fail
  refine (must_bb _ _).mono ?_
  rintro e w2 ⟨rfl, hbl⟩
  replace RA := Lib.hid (RA.out.below hbl)
  replace RB := Lib.hid (RB.out.below hbl)
  replace RE := Lib.hid (RE.out.below hbl)
  replace Ra := Lib.hid (Ra.out.below hbl)
  replace HNa := Lib.hid (HNa.out.below hbl)
  replace RES := Lib.hid (RES.out.below hbl RES.out.lt)
  replace HW := Lib.hid (bel_trans HW.out hbl); clear hbl
  go_wp2_with fail
  refine (reduced_q s Aa E ca k (x + y) den _ Ra.out RE.out HCa.out LD.out.2.1 HXY.out LD.out.1 LD.out.2.2 HQ.out).mono ?_
  rintro e w3 ⟨vp, vq, rfl, hnp, hnq, hbl⟩
  replace RA := Lib.hid (RA.out.below hbl)
  replace RB := Lib.hid (RB.out.below hbl)
  replace RE := Lib.hid (RE.out.below hbl)
  replace Ra := Lib.hid (Ra.out.below hbl)
  replace HNa := Lib.hid (HNa.out.below hbl)
  replace RES := Lib.hid (RES.out.below hbl RES.out.lt)
  replace HW := Lib.hid (bel_trans HW.out hbl); clear hbl
  have HNp := Lib.hid hnp; clear hnp
  obtain ⟨Ap, cp, rfl, hcp, hrp⟩ := HNp.out.row
  have Rp := Lib.hid hrp; have HCp := Lib.hid hcp; clear hrp hcp
  have HNq := Lib.hid hnq; clear hnq
  obtain ⟨Aq, cq, rfl, hcq, hrq⟩ := HNq.out.row
  have Rq := Lib.hid hrq; have HCq := Lib.hid hcq; clear hrq hcq
  have d0 : w3.cell? ⟨w.heap.size, 0, none⟩ = some (.bool false) := RES.out.cell 0
  have f0 : w3.frozen? ⟨w.heap.size, 0, none⟩ = false := RES.out.frozen 0
  have d1 : w3.cell? ⟨w.heap.size, 1, none⟩ = some (.slice none 0 0) := RES.out.cell 1
  have f1 : w3.frozen? ⟨w.heap.size, 1, none⟩ = false := RES.out.frozen 1
  have d2 : w3.cell? ⟨w.heap.size, 2, none⟩ = some (.slice none 0 0) := RES.out.cell 2
  have f2 : w3.frozen? ⟨w.heap.size, 2, none⟩ = false := RES.out.frozen 2
  have D := Lib.hid (And.intro (RES.out.put3 (.bool q.s) (.slice Ap (limbs q.n).length cp) (.slice Aq (limbs q.d).length cq)) (bel_set3 HW.out (Nat.le_refl _) (.bool q.s) (.slice Ap (limbs q.n).length cp) (.slice Aq (limbs q.d).length cq)))
  have N0 := Lib.hid (RdN.set3 RES.out (HNp.out) (.bool q.s) (.slice Ap (limbs q.n).length cp) (.slice Aq (limbs q.d).length cq))
  have N1 := Lib.hid (RdN.set3 RES.out (HNq.out) (.bool q.s) (.slice Ap (limbs q.n).length cp) (.slice Aq (limbs q.d).length cq))
  go_wp2
  refine bodyPost_ret (v := .agg #[.bool q.s, .slice Ap (limbs q.n).length cp, .slice Aq (limbs q.d).length cq]) ?hr rfl ?hR
  case hR => exact ⟨_, _, rfl, N0.out, N1.out, D.out.2⟩
  case hr => exact results_cell_row rfl _ _ (w.heap.size) 25 _ (0, 0) _ rfl D.out.1 Try.underlying25 rfl (by kernel_rfl)

set_option maxRecDepth 100000 in
set_option maxHeartbeats 1000000 in
theorem sum_lt {q : Q} (s s' : Bool) (A B E : Option Addr) (c d k : Nat) (x y den : Nat) (w : World) (h : RdL w A (limbs x)) (h' : RdL w B (limbs y)) (h3 : RdL w E (limbs den)) (hc : (limbs x).length ≤ c) (hc' : (limbs y).length ≤ d) (hc3 : (limbs den).length ≤ k) (hx : x < Top) (hy : y < Top) (hd : den < Top) (hd0 : den ≠ 0) (hxy : x + y < Top) (hs : ¬ s = s') (hl : x < y) (hq : redQ s' (y - x) den = q) :
    Calls Try.prog 91 #[.bool s, .bool s', .slice A (limbs x).length c, .slice B (limbs y).length d, .slice E (limbs den).length k] w (RetQ q w) := by
  have e1 : (s == s') = false := by simp [hs]
  clear hs
  have HL := Lib.hid hl
  have e2 : cmpI (x : Int) (y : Int) < 0 := by rw [cmpI_lt (by omega)]; decide
  clear hl
  have LA := Lib.hid (And.intro hx hc); clear hx hc
  have LB := Lib.hid (And.intro hy hc'); clear hy hc'
  have LD := Lib.hid (And.intro hd (And.intro hc3 hd0)); clear hd hc3 hd0
  have HXY := Lib.hid hxy; clear hxy
  have HQ := Lib.hid hq; clear hq
  have RA := Lib.hid h; clear h
  have RB := Lib.hid h'; clear h'
  have RE := Lib.hid h3; clear h3
  obtain ⟨wa, hwa⟩ : ∃ wa, wa = w.alloc (.cells #[.bool false, .slice none 0 0, .slice none 0 0] 25) := ⟨_, rfl⟩
  have hbl : Below w.heap.size w wa := by rw [hwa]; exact bel_alloc (bel_refl _) _
  have RES : Blk wa (w.heap.size) 25 #[.bool false, .slice none 0 0, .slice none 0 0] := by
    have hz := Blk.new (w) 25 #[.bool false, .slice none 0 0, .slice none 0 0]
    rw [hwa]
    exact hz
  replace RA := Lib.hid (RA.out.below hbl)
  replace RB := Lib.hid (RB.out.below hbl)
  replace RE := Lib.hid (RE.out.below hbl)
  have HW := Lib.hid hbl; clear hbl
  replace RES := Lib.hid RES
  go_enter Try.func91, Try.ntmps91
  go_wp2_with fail
  rw [← hwa]
  clear hwa
  refine (add_small A B c d x y (x + y) _ RA.out RB.out LA.out.1 LB.out.1 rfl HXY.out).mono ?_
  rintro e w1 ⟨va, rfl, hna, hbl⟩
  replace RA := Lib.hid (RA.out.below hbl)
  replace RB := Lib.hid (RB.out.below hbl)
  replace RE := Lib.hid (RE.out.below hbl)
  replace RES := Lib.hid (RES.out.below hbl RES.out.lt)
  replace HW := Lib.hid (bel_trans HW.out hbl); clear hbl
  have HNa := Lib.hid hna; clear hna
  obtain ⟨Aa, ca, rfl, hca, hra⟩ := HNa.out.row
  have Ra := Lib.hid hra; have HCa := Lib.hid hca; clear hra hca
  go_wp2_with fail
  refine (must_bb _ _).mono ?_
  rintro e w2 ⟨rfl, hbl⟩
  replace RA := Lib.hid (RA.out.below hbl)
  replace RB := Lib.hid (RB.out.below hbl)
  replace RE := Lib.hid (RE.out.below hbl)
  replace Ra := Lib.hid (Ra.out.below hbl)
  replace HNa := Lib.hid (HNa.out.below hbl)
  replace RES := Lib.hid (RES.out.below hbl RES.out.lt)
  replace HW := Lib.hid (bel_trans HW.out hbl); clear hbl
  go_wp2_with fail
  refine (cmp_num A B c d x y _ RA.out RB.out LA.out.1 LB.out.1).mono ?_
  rintro e w3 ⟨rfl, hbl⟩
  replace RA := Lib.hid (RA.out.below hbl)
  replace RB := Lib.hid (RB.out.below hbl)
  replace RE := Lib.hid (RE.out.below hbl)
  replace Ra := Lib.hid (Ra.out.below hbl)
  replace HNa := Lib.hid (HNa.out.below hbl)
  replace RES := Lib.hid (RES.out.below hbl RES.out.lt)
  replace HW := Lib.hid (bel_trans HW.out hbl); clear hbl
  go_wp2_with fail
  refine (sub_small B A d c y x _ RB.out RA.out LB.out.1 LA.out.1 (Nat.le_of_lt HL.out)).mono ?_
  rintro e w4 ⟨vb, rfl, hnb, hbl⟩
  replace RA := Lib.hid (RA.out.below hbl)
  replace RB := Lib.hid (RB.out.below hbl)
  replace RE := Lib.hid (RE.out.below hbl)
  replace Ra := Lib.hid (Ra.out.below hbl)
  replace HNa := Lib.hid (HNa.out.below hbl)
  replace RES := Lib.hid (RES.out.below hbl RES.out.lt)
  replace HW := Lib.hid (bel_trans HW.out hbl); clear hbl
  have HNb := Lib.hid hnb; clear hnb
  obtain ⟨Ab, cb, rfl, hcb, hrb⟩ := HNb.out.row
  have Rb := Lib.hid hrb; have HCb := Lib.hid hcb; clear hrb hcb
  go_wp2_with fail
  refine (must_bb _ _).mono ?_
  rintro e w5 ⟨rfl, hbl⟩
  replace RA := Lib.hid (RA.out.below hbl)
  replace RB := Lib.hid (RB.out.below hbl)
  replace RE := Lib.hid (RE.out.below hbl)
  replace Ra := Lib.hid (Ra.out.below hbl)
  replace HNa := Lib.hid (HNa.out.below hbl)
  replace Rb := Lib.hid (Rb.out.below hbl)
  replace HNb := Lib.hid (HNb.out.below hbl)
  replace RES := Lib.hid (RES.out.below hbl RES.out.lt)
  replace HW := Lib.hid (bel_trans HW.out hbl); clear hbl
  go_wp2_with fail
  refine (reduced_q s' Ab E cb k (y - x) den _ Rb.out RE.out HCb.out LD.out.2.1 (lt_top (Nat.sub_le _ _) LB.out.1) LD.out.1 LD.out.2.2 HQ.out).mono ?_
  rintro e w6 ⟨vp, vq, rfl, hnp, hnq, hbl⟩
  replace RA := Lib.hid (RA.out.below hbl)
  replace RB := Lib.hid (RB.out.below hbl)
  replace RE := Lib.hid (RE.out.below hbl)
  replace Ra := Lib.hid (Ra.out.below hbl)
  replace HNa := Lib.hid (HNa.out.below hbl)
  replace Rb := Lib.hid (Rb.out.below hbl)
  replace HNb := Lib.hid (HNb.out.below hbl)
  replace RES := Lib.hid (RES.out.below hbl RES.out.lt)
  replace HW := Lib.hid (bel_trans HW.out hbl); clear hbl
  have HNp := Lib.hid hnp; clear hnp
  obtain ⟨Ap, cp, rfl, hcp, hrp⟩ := HNp.out.row
  have Rp := Lib.hid hrp; have HCp := Lib.hid hcp; clear hrp hcp
  have HNq := Lib.hid hnq; clear hnq
  obtain ⟨Aq, cq, rfl, hcq, hrq⟩ := HNq.out.row
  have Rq := Lib.hid hrq; have HCq := Lib.hid hcq; clear hrq hcq
  have d0 : w6.cell? ⟨w.heap.size, 0, none⟩ = some (.bool false) := RES.out.cell 0
  have f0 : w6.frozen? ⟨w.heap.size, 0, none⟩ = false := RES.out.frozen 0
  have d1 : w6.cell? ⟨w.heap.size, 1, none⟩ = some (.slice none 0 0) := RES.out.cell 1
  have f1 : w6.frozen? ⟨w.heap.size, 1, none⟩ = false := RES.out.frozen 1
  have d2 : w6.cell? ⟨w.heap.size, 2, none⟩ = some (.slice none 0 0) := RES.out.cell 2
  have f2 : w6.frozen? ⟨w.heap.size, 2, none⟩ = false := RES.out.frozen 2
  have D := Lib.hid (And.intro (RES.out.put3 (.bool q.s) (.slice Ap (limbs q.n).length cp) (.slice Aq (limbs q.d).length cq)) (bel_set3 HW.out (Nat.le_refl _) (.bool q.s) (.slice Ap (limbs q.n).length cp) (.slice Aq (limbs q.d).length cq)))
  have N0 := Lib.hid (RdN.set3 RES.out (HNp.out) (.bool q.s) (.slice Ap (limbs q.n).length cp) (.slice Aq (limbs q.d).length cq))
  have N1 := Lib.hid (RdN.set3 RES.out (HNq.out) (.bool q.s) (.slice Ap (limbs q.n).length cp) (.slice Aq (limbs q.d).length cq))
  go_wp2
  refine bodyPost_ret (v := .agg #[.bool q.s, .slice Ap (limbs q.n).length cp, .slice Aq (limbs q.d).length cq]) ?hr rfl ?hR
  case hR => exact ⟨_, _, rfl, N0.out, N1.out, D.out.2⟩
  case hr => exact results_cell_row rfl _ _ (w.heap.size) 25 _ (0, 0) _ rfl D.out.1 Try.underlying25 rfl (by kernel_rfl)

set_option maxRecDepth 100000 in
set_option maxHeartbeats 1000000 in
theorem sum_ge {q : Q} (s s' : Bool) (A B E : Option Addr) (c d k : Nat) (x y den : Nat) (w : World) (h : RdL w A (limbs x)) (h' : RdL w B (limbs y)) (h3 : RdL w E (limbs den)) (hc : (limbs x).length ≤ c) (hc' : (limbs y).length ≤ d) (hc3 : (limbs den).length ≤ k) (hx : x < Top) (hy : y < Top) (hd : den < Top) (hd0 : den ≠ 0) (hxy : x + y < Top) (hs : ¬ s = s') (hl : y ≤ x) (hq : redQ s (x - y) den = q) :
    Calls Try.prog 91 #[.bool s, .bool s', .slice A (limbs x).length c, .slice B (limbs y).length d, .slice E (limbs den).length k] w (RetQ q w) := by
  have e1 : (s == s') = false := by simp [hs]
  clear hs
  have HL := Lib.hid hl
  have e2 : ¬ cmpI (x : Int) (y : Int) < 0 := by have := cmp_ge (a := x) (b := y) (by omega); omega
  clear hl
  have LA := Lib.hid (And.intro hx hc); clear hx hc
  have LB := Lib.hid (And.intro hy hc'); clear hy hc'
  have LD := Lib.hid (And.intro hd (And.intro hc3 hd0)); clear hd hc3 hd0
  have HXY := Lib.hid hxy; clear hxy
  have HQ := Lib.hid hq; clear hq
  have RA := Lib.hid h; clear h
  have RB := Lib.hid h'; clear h'
  have RE := Lib.hid h3; clear h3
  obtain ⟨wa, hwa⟩ : ∃ wa, wa = w.alloc (.cells #[.bool false, .slice none 0 0, .slice none 0 0] 25) := ⟨_, rfl⟩
  have hbl : Below w.heap.size w wa := by rw [hwa]; exact bel_alloc (bel_refl _) _
  have RES : Blk wa (w.heap.size) 25 #[.bool false, .slice none 0 0, .slice none 0 0] := by
    have hz := Blk.new (w) 25 #[.bool false, .slice none 0 0, .slice none 0 0]
    rw [hwa]
    exact hz
  replace RA := Lib.hid (RA.out.below hbl)
  replace RB := Lib.hid (RB.out.below hbl)
  replace RE := Lib.hid (RE.out.below hbl)
  have HW := Lib.hid hbl; clear hbl
  replace RES := Lib.hid RES
  go_enter Try.func91, Try.ntmps91
  go_wp2_with fail
  rw [← hwa]
  clear hwa
  refine (add_small A B c d x y (x + y) _ RA.out RB.out LA.out.1 LB.out.1 rfl HXY.out).mono ?_
  rintro e w1 ⟨va, rfl, hna, hbl⟩
  replace RA := Lib.hid (RA.out.below hbl)
  replace RB := Lib.hid (RB.out.below hbl)
  replace RE := Lib.hid (RE.out.below hbl)
  replace RES := Lib.hid (RES.out.below hbl RES.out.lt)
  replace HW := Lib.hid (bel_trans HW.out hbl); clear hbl
  have HNa := Lib.hid hna; clear hna
  obtain ⟨Aa, ca, rfl, hca, hra⟩ := HNa.out.row
  have Ra := Lib.hid hra; have HCa := Lib.hid hca; clear hra hca
  go_wp2_with fail
  refine (must_bb _ _).mono ?_
  rintro e w2 ⟨rfl, hbl⟩
  replace RA := Lib.hid (RA.out.below hbl)
  replace RB := Lib.hid (RB.out.below hbl)
  replace RE := Lib.hid (RE.out.below hbl)
  replace Ra := Lib.hid (Ra.out.below hbl)
  replace HNa := Lib.hid (HNa.out.below hbl)
  replace RES := Lib.hid (RES.out.below hbl RES.out.lt)
  replace HW := Lib.hid (bel_trans HW.out hbl); clear hbl
  go_wp2_with fail
  refine (cmp_num A B c d x y _ RA.out RB.out LA.out.1 LB.out.1).mono ?_
  rintro e w3 ⟨rfl, hbl⟩
  replace RA := Lib.hid (RA.out.below hbl)
  replace RB := Lib.hid (RB.out.below hbl)
  replace RE := Lib.hid (RE.out.below hbl)
  replace Ra := Lib.hid (Ra.out.below hbl)
  replace HNa := Lib.hid (HNa.out.below hbl)
  replace RES := Lib.hid (RES.out.below hbl RES.out.lt)
  replace HW := Lib.hid (bel_trans HW.out hbl); clear hbl
  go_wp2_with fail
  refine (sub_small A B c d x y _ RA.out RB.out LA.out.1 LB.out.1 HL.out).mono ?_
  rintro e w4 ⟨vb, rfl, hnb, hbl⟩
  replace RA := Lib.hid (RA.out.below hbl)
  replace RB := Lib.hid (RB.out.below hbl)
  replace RE := Lib.hid (RE.out.below hbl)
  replace Ra := Lib.hid (Ra.out.below hbl)
  replace HNa := Lib.hid (HNa.out.below hbl)
  replace RES := Lib.hid (RES.out.below hbl RES.out.lt)
  replace HW := Lib.hid (bel_trans HW.out hbl); clear hbl
  have HNb := Lib.hid hnb; clear hnb
  obtain ⟨Ab, cb, rfl, hcb, hrb⟩ := HNb.out.row
  have Rb := Lib.hid hrb; have HCb := Lib.hid hcb; clear hrb hcb
  go_wp2_with fail
  refine (must_bb _ _).mono ?_
  rintro e w5 ⟨rfl, hbl⟩
  replace RA := Lib.hid (RA.out.below hbl)
  replace RB := Lib.hid (RB.out.below hbl)
  replace RE := Lib.hid (RE.out.below hbl)
  replace Ra := Lib.hid (Ra.out.below hbl)
  replace HNa := Lib.hid (HNa.out.below hbl)
  replace Rb := Lib.hid (Rb.out.below hbl)
  replace HNb := Lib.hid (HNb.out.below hbl)
  replace RES := Lib.hid (RES.out.below hbl RES.out.lt)
  replace HW := Lib.hid (bel_trans HW.out hbl); clear hbl
  go_wp2_with fail
  refine (reduced_q s Ab E cb k (x - y) den _ Rb.out RE.out HCb.out LD.out.2.1 (lt_top (Nat.sub_le _ _) LA.out.1) LD.out.1 LD.out.2.2 HQ.out).mono ?_
  rintro e w6 ⟨vp, vq, rfl, hnp, hnq, hbl⟩
  replace RA := Lib.hid (RA.out.below hbl)
  replace RB := Lib.hid (RB.out.below hbl)
  replace RE := Lib.hid (RE.out.below hbl)
  replace Ra := Lib.hid (Ra.out.below hbl)
  replace HNa := Lib.hid (HNa.out.below hbl)
  replace Rb := Lib.hid (Rb.out.below hbl)
  replace HNb := Lib.hid (HNb.out.below hbl)
  replace RES := Lib.hid (RES.out.below hbl RES.out.lt)
  replace HW := Lib.hid (bel_trans HW.out hbl); clear hbl
  have HNp := Lib.hid hnp; clear hnp
  obtain ⟨Ap, cp, rfl, hcp, hrp⟩ := HNp.out.row
  have Rp := Lib.hid hrp; have HCp := Lib.hid hcp; clear hrp hcp
  have HNq := Lib.hid hnq; clear hnq
  obtain ⟨Aq, cq, rfl, hcq, hrq⟩ := HNq.out.row
  have Rq := Lib.hid hrq; have HCq := Lib.hid hcq; clear hrq hcq
  have d0 : w6.cell? ⟨w.heap.size, 0, none⟩ = some (.bool false) := RES.out.cell 0
  have f0 : w6.frozen? ⟨w.heap.size, 0, none⟩ = false := RES.out.frozen 0
  have d1 : w6.cell? ⟨w.heap.size, 1, none⟩ = some (.slice none 0 0) := RES.out.cell 1
  have f1 : w6.frozen? ⟨w.heap.size, 1, none⟩ = false := RES.out.frozen 1
  have d2 : w6.cell? ⟨w.heap.size, 2, none⟩ = some (.slice none 0 0) := RES.out.cell 2
  have f2 : w6.frozen? ⟨w.heap.size, 2, none⟩ = false := RES.out.frozen 2
  have D := Lib.hid (And.intro (RES.out.put3 (.bool q.s) (.slice Ap (limbs q.n).length cp) (.slice Aq (limbs q.d).length cq)) (bel_set3 HW.out (Nat.le_refl _) (.bool q.s) (.slice Ap (limbs q.n).length cp) (.slice Aq (limbs q.d).length cq)))
  have N0 := Lib.hid (RdN.set3 RES.out (HNp.out) (.bool q.s) (.slice Ap (limbs q.n).length cp) (.slice Aq (limbs q.d).length cq))
  have N1 := Lib.hid (RdN.set3 RES.out (HNq.out) (.bool q.s) (.slice Ap (limbs q.n).length cp) (.slice Aq (limbs q.d).length cq))
  go_wp2
  refine bodyPost_ret (v := .agg #[.bool q.s, .slice Ap (limbs q.n).length cp, .slice Aq (limbs q.d).length cq]) ?hr rfl ?hR
  case hR => exact ⟨_, _, rfl, N0.out, N1.out, D.out.2⟩
  case hr => exact results_cell_row rfl _ _ (w.heap.size) 25 _ (0, 0) _ rfl D.out.1 Try.underlying25 rfl (by kernel_rfl)

set_option maxRecDepth 100000 in
set_option maxHeartbeats 1000000 in
theorem sum_over (s s' : Bool) (A B : Option Addr) (z : Value) (c d : Nat) (x y : Nat) (w : World) (h : RdL w A (limbs x)) (h' : RdL w B (limbs y)) (hx : x < Top) (hy : y < Top) (hxy : ¬ x + y < Top) :
    Calls Try.prog 91 #[.bool s, .bool s', .slice A (limbs x).length c, .slice B (limbs y).length d, z] w (RetBad 2 w) := by
  have LA := Lib.hid hx; clear hx
  have LB := Lib.hid hy; clear hy
  have HXY := Lib.hid hxy; clear hxy
  have RA := Lib.hid h; clear h
  have RB := Lib.hid h'; clear h'
  obtain ⟨wa, hwa⟩ : ∃ wa, wa = w.alloc (.cells #[.bool false, .slice none 0 0, .slice none 0 0] 25) := ⟨_, rfl⟩
  have hbl : Below w.heap.size w wa := by rw [hwa]; exact bel_alloc (bel_refl _) _
  have RES : Blk wa (w.heap.size) 25 #[.bool false, .slice none 0 0, .slice none 0 0] := by
    have hz := Blk.new (w) 25 #[.bool false, .slice none 0 0, .slice none 0 0]
    rw [hwa]
    exact hz
  replace RA := Lib.hid (RA.out.below hbl)
  replace RB := Lib.hid (RB.out.below hbl)
  have HW := Lib.hid hbl; clear hbl
  replace RES := Lib.hid RES
  go_enter Try.func91, Try.ntmps91
  go_wp2_with fail
  rw [← hwa]
  clear hwa
  refine (add_over A B c d x y _ RA.out RB.out LA.out LB.out HXY.out).mono ?_
  rintro e w1 ⟨va, rfl, hna, hbl⟩
  replace RA := Lib.hid (RA.out.below hbl)
  replace RB := Lib.hid (RB.out.below hbl)
  replace RES := Lib.hid (RES.out.below hbl RES.out.lt)
  replace HW := Lib.hid (bel_trans HW.out hbl); clear hbl
  have HNa := Lib.hid hna; clear hna
  obtain ⟨Aa, ca, rfl, hca, hra⟩ := HNa.out.row
  have Ra := Lib.hid hra; have HCa := Lib.hid hca; clear hra hca
  go_wp2_with fail
  refine (must_pp _ 2 _ (by decide)).mono ?_
  rintro e w9 ⟨rfl, hbl⟩
  exact ⟨rfl, rfl, bel_trans HW.out hbl⟩

theorem sum_any {q : Q} (s s' : Bool) (A B E : Option Addr) (c d k : Nat) (x y den : Nat) (w : World) (h : RdL w A (limbs x)) (h' : RdL w B (limbs y)) (h3 : RdL w E (limbs den)) (hc : (limbs x).length ≤ c) (hc' : (limbs y).length ≤ d) (hc3 : (limbs den).length ≤ k) (hx : x < Top) (hy : y < Top) (hd : den < Top) (hd0 : den ≠ 0) (hxy : x + y < Top) (hq : sumQ s s' x y den = q) :
    Calls Try.prog 91 #[.bool s, .bool s', .slice A (limbs x).length c, .slice B (limbs y).length d, .slice E (limbs den).length k] w (RetQ q w) := by
  unfold sumQ at hq
  by_cases hs : s = s'
  · rw [if_pos hs] at hq
    subst hs
    exact sum_same s A B E c d k x y den w h h' h3 hc hc' hc3 hx hy hd hd0 hxy hq
  · rw [if_neg hs] at hq
    by_cases hl : x < y
    · rw [if_pos hl] at hq
      exact sum_lt s s' A B E c d k x y den w h h' h3 hc hc' hc3 hx hy hd hd0 hxy hs hl hq
    · rw [if_neg hl] at hq
      exact sum_ge s s' A B E c d k x y den w h h' h3 hc hc' hc3 hx hy hd hd0 hxy hs (Nat.le_of_not_lt hl) hq
end
end Go.Proofs.Ytmbbdjpnecjleaa
