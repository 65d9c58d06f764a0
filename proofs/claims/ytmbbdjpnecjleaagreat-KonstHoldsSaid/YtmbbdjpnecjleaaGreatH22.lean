/-
 Parts: K7.
-/
import Derived.Test.YtmbbdjpnecjleaaGreatH19
namespace Go.Proofs.YtmbbdjpnecjleaaGreat
section
set_option maxRecDepth 100000
set_option maxHeartbeats 1000000
open Go.RowKit

theorem kDrop_add {q : Q} {e : Int} (g : Nat) (t : Int) (a b : Q) (A B A' B' : Option Addr) (c d c' d' : Nat) (w : World) (hg : w.cell? ⟨g, 0, none⟩ = some (.func (.func 54) #[] #[])) (hC : ∀ W, Below w.heap.size w W → Calls Tryz.prog 54 #[.agg #[.bool a.s, .slice A (limbs a.n).length c, .slice B (limbs a.d).length d], .agg #[.bool b.s, .slice A' (limbs b.n).length c', .slice B' (limbs b.d).length d']] W (RetQE q e W)) :
 Calls Tryz.prog 95 #[.agg #[.bool a.s, .slice A (limbs a.n).length c, .slice B (limbs a.d).length d], .agg #[.bool b.s, .slice A' (limbs b.n).length c', .slice B' (limbs b.d).length d'], .int .i64 t, .pointer (some ⟨g, 0, none⟩)] w (RetQE q e w) := by
 have HC := Lib.hid hC; clear hC
 have HG0 := Lib.hid (And.intro hg (World.block_lt_of_cell? w _ hg)); clear hg
 obtain ⟨wa, hwa⟩ : ∃ wa, wa = ((w.alloc (.cells #[.bool a.s, .slice A (limbs a.n).length c, .slice B (limbs a.d).length d] 25)).alloc (.cells #[.bool b.s, .slice A' (limbs b.n).length c', .slice B' (limbs b.d).length d'] 25)).alloc (.cells #[.bool false, .slice none 0 0, .slice none 0 0] 25) := ⟨_, rfl⟩
 obtain ⟨hbl, CX, CY, RES⟩ := kal3 hwa
 have HW := Lib.hid hbl; clear hbl
 replace CX := Lib.hid CX
 replace CY := Lib.hid CY
 replace RES := Lib.hid RES
 have hg : wa.cell? ⟨g, 0, none⟩ = some (.func (.func 54) #[] #[]) := (HW.out.cell (p := ⟨g, 0, none⟩) HG0.out.2).trans HG0.out.1
 have hgx := hg
 rw [hwa] at hgx
 go_enter Tryz.func95, Tryz.ntmps95
 go_wp2_with fail
 rw [← hwa]
 clear hwa
 obtain ⟨CX0, CX1, CX2⟩ := CX.out.cs3
 obtain ⟨CY0, CY1, CY2⟩ := CY.out.cs3
 refine (HC.out _ HW.out).mono ?_
 rintro e w1 ⟨vx, vy, rfl, hnx, hny, hbl⟩
 replace CX := hmB CX hbl
 replace CY := hmB CY hbl
 replace RES := hmB RES hbl
 replace HW := hmW HW hbl; clear hbl
 clear CX0 CX1 CX2 CY0 CY1 CY2
 obtain ⟨CX0, CX1, CX2⟩ := CX.out.cs3
 obtain ⟨CY0, CY1, CY2⟩ := CY.out.cs3
 have HNx := Lib.hid hnx; clear hnx
 obtain ⟨Ax, cx, rfl, hcx, hrx⟩ := HNx.out.row
 have Rx := Lib.hid hrx; have HCx := Lib.hid hcx; clear hrx hcx
 have HNy := Lib.hid hny; clear hny
 obtain ⟨Ay, cy, rfl, hcy, hry⟩ := HNy.out.row
 have Ry := Lib.hid hry; have HCy := Lib.hid hcy; clear hry hcy
 obtain ⟨d0, d1, d2⟩ := RES.out.cs3
 obtain ⟨f0, f1, f2⟩ := RES.out.fz3
 go_wp2
 exact bodyPost_ret (results_row_tmp rfl _ _ (w.heap.size + 2) 25 _ (0, 0) _ _ rfl rfl (RES.out.put3 _ _ _) Tryz.underlying25 rfl (by kernel_rfl)) rfl ⟨_, _, rfl, (RdN.set3 RES.out (HNx.out) _ _ _), (RdN.set3 RES.out (HNy.out) _ _ _), (bel_set3 (g := w.heap.size + 2) HW.out (by omega) _ _ _)⟩
theorem kDrop_sub {q : Q} {e : Int} (g : Nat) (t : Int) (a b : Q) (A B A' B' : Option Addr) (c d c' d' : Nat) (w : World) (hg : w.cell? ⟨g, 0, none⟩ = some (.func (.func 55) #[] #[])) (hC : ∀ W, Below w.heap.size w W → Calls Tryz.prog 55 #[.agg #[.bool a.s, .slice A (limbs a.n).length c, .slice B (limbs a.d).length d], .agg #[.bool b.s, .slice A' (limbs b.n).length c', .slice B' (limbs b.d).length d']] W (RetQE q e W)) :
 Calls Tryz.prog 95 #[.agg #[.bool a.s, .slice A (limbs a.n).length c, .slice B (limbs a.d).length d], .agg #[.bool b.s, .slice A' (limbs b.n).length c', .slice B' (limbs b.d).length d'], .int .i64 t, .pointer (some ⟨g, 0, none⟩)] w (RetQE q e w) := by
 have HC := Lib.hid hC; clear hC
 have HG0 := Lib.hid (And.intro hg (World.block_lt_of_cell? w _ hg)); clear hg
 obtain ⟨wa, hwa⟩ : ∃ wa, wa = ((w.alloc (.cells #[.bool a.s, .slice A (limbs a.n).length c, .slice B (limbs a.d).length d] 25)).alloc (.cells #[.bool b.s, .slice A' (limbs b.n).length c', .slice B' (limbs b.d).length d'] 25)).alloc (.cells #[.bool false, .slice none 0 0, .slice none 0 0] 25) := ⟨_, rfl⟩
 obtain ⟨hbl, CX, CY, RES⟩ := kal3 hwa
 have HW := Lib.hid hbl; clear hbl
 replace CX := Lib.hid CX
 replace CY := Lib.hid CY
 replace RES := Lib.hid RES
 have hg : wa.cell? ⟨g, 0, none⟩ = some (.func (.func 55) #[] #[]) := (HW.out.cell (p := ⟨g, 0, none⟩) HG0.out.2).trans HG0.out.1
 have hgx := hg
 rw [hwa] at hgx
 go_enter Tryz.func95, Tryz.ntmps95
 go_wp2_with fail
 rw [← hwa]
 clear hwa
 obtain ⟨CX0, CX1, CX2⟩ := CX.out.cs3
 obtain ⟨CY0, CY1, CY2⟩ := CY.out.cs3
 refine (HC.out _ HW.out).mono ?_
 rintro e w1 ⟨vx, vy, rfl, hnx, hny, hbl⟩
 replace CX := hmB CX hbl
 replace CY := hmB CY hbl
 replace RES := hmB RES hbl
 replace HW := hmW HW hbl; clear hbl
 clear CX0 CX1 CX2 CY0 CY1 CY2
 obtain ⟨CX0, CX1, CX2⟩ := CX.out.cs3
 obtain ⟨CY0, CY1, CY2⟩ := CY.out.cs3
 have HNx := Lib.hid hnx; clear hnx
 obtain ⟨Ax, cx, rfl, hcx, hrx⟩ := HNx.out.row
 have Rx := Lib.hid hrx; have HCx := Lib.hid hcx; clear hrx hcx
 have HNy := Lib.hid hny; clear hny
 obtain ⟨Ay, cy, rfl, hcy, hry⟩ := HNy.out.row
 have Ry := Lib.hid hry; have HCy := Lib.hid hcy; clear hry hcy
 obtain ⟨d0, d1, d2⟩ := RES.out.cs3
 obtain ⟨f0, f1, f2⟩ := RES.out.fz3
 go_wp2
 exact bodyPost_ret (results_row_tmp rfl _ _ (w.heap.size + 2) 25 _ (0, 0) _ _ rfl rfl (RES.out.put3 _ _ _) Tryz.underlying25 rfl (by kernel_rfl)) rfl ⟨_, _, rfl, (RdN.set3 RES.out (HNx.out) _ _ _), (RdN.set3 RES.out (HNy.out) _ _ _), (bel_set3 (g := w.heap.size + 2) HW.out (by omega) _ _ _)⟩
theorem kDrop_mul {q : Q} {e : Int} (g : Nat) (t : Int) (a b : Q) (A B A' B' : Option Addr) (c d c' d' : Nat) (w : World) (hg : w.cell? ⟨g, 0, none⟩ = some (.func (.func 56) #[] #[])) (hC : ∀ W, Below w.heap.size w W → Calls Tryz.prog 56 #[.agg #[.bool a.s, .slice A (limbs a.n).length c, .slice B (limbs a.d).length d], .agg #[.bool b.s, .slice A' (limbs b.n).length c', .slice B' (limbs b.d).length d']] W (RetQE q e W)) :
 Calls Tryz.prog 95 #[.agg #[.bool a.s, .slice A (limbs a.n).length c, .slice B (limbs a.d).length d], .agg #[.bool b.s, .slice A' (limbs b.n).length c', .slice B' (limbs b.d).length d'], .int .i64 t, .pointer (some ⟨g, 0, none⟩)] w (RetQE q e w) := by
 have HC := Lib.hid hC; clear hC
 have HG0 := Lib.hid (And.intro hg (World.block_lt_of_cell? w _ hg)); clear hg
 obtain ⟨wa, hwa⟩ : ∃ wa, wa = ((w.alloc (.cells #[.bool a.s, .slice A (limbs a.n).length c, .slice B (limbs a.d).length d] 25)).alloc (.cells #[.bool b.s, .slice A' (limbs b.n).length c', .slice B' (limbs b.d).length d'] 25)).alloc (.cells #[.bool false, .slice none 0 0, .slice none 0 0] 25) := ⟨_, rfl⟩
 obtain ⟨hbl, CX, CY, RES⟩ := kal3 hwa
 have HW := Lib.hid hbl; clear hbl
 replace CX := Lib.hid CX
 replace CY := Lib.hid CY
 replace RES := Lib.hid RES
 have hg : wa.cell? ⟨g, 0, none⟩ = some (.func (.func 56) #[] #[]) := (HW.out.cell (p := ⟨g, 0, none⟩) HG0.out.2).trans HG0.out.1
 have hgx := hg
 rw [hwa] at hgx
 go_enter Tryz.func95, Tryz.ntmps95
 go_wp2_with fail
 rw [← hwa]
 clear hwa
 obtain ⟨CX0, CX1, CX2⟩ := CX.out.cs3
 obtain ⟨CY0, CY1, CY2⟩ := CY.out.cs3
 refine (HC.out _ HW.out).mono ?_
 rintro e w1 ⟨vx, vy, rfl, hnx, hny, hbl⟩
 replace CX := hmB CX hbl
 replace CY := hmB CY hbl
 replace RES := hmB RES hbl
 replace HW := hmW HW hbl; clear hbl
 clear CX0 CX1 CX2 CY0 CY1 CY2
 obtain ⟨CX0, CX1, CX2⟩ := CX.out.cs3
 obtain ⟨CY0, CY1, CY2⟩ := CY.out.cs3
 have HNx := Lib.hid hnx; clear hnx
 obtain ⟨Ax, cx, rfl, hcx, hrx⟩ := HNx.out.row
 have Rx := Lib.hid hrx; have HCx := Lib.hid hcx; clear hrx hcx
 have HNy := Lib.hid hny; clear hny
 obtain ⟨Ay, cy, rfl, hcy, hry⟩ := HNy.out.row
 have Ry := Lib.hid hry; have HCy := Lib.hid hcy; clear hry hcy
 obtain ⟨d0, d1, d2⟩ := RES.out.cs3
 obtain ⟨f0, f1, f2⟩ := RES.out.fz3
 go_wp2
 exact bodyPost_ret (results_row_tmp rfl _ _ (w.heap.size + 2) 25 _ (0, 0) _ _ rfl rfl (RES.out.put3 _ _ _) Tryz.underlying25 rfl (by kernel_rfl)) rfl ⟨_, _, rfl, (RdN.set3 RES.out (HNx.out) _ _ _), (RdN.set3 RES.out (HNy.out) _ _ _), (bel_set3 (g := w.heap.size + 2) HW.out (by omega) _ _ _)⟩
theorem kBitly_1 {q : Q} {e : Int} (g : Nat) (t : Int) (a b : Q) (A B A' B' : Option Addr) (c d c' d' : Nat) (w : World) (hg : w.cell? ⟨g, 0, none⟩ = some (.func (.func 60) #[] #[])) (hC : ∀ W, Below w.heap.size w W → Calls Tryz.prog 104 #[.agg #[.bool a.s, .slice A (limbs a.n).length c, .slice B (limbs a.d).length d], .agg #[.bool b.s, .slice A' (limbs b.n).length c', .slice B' (limbs b.d).length d'], .func (.func 60) #[] #[]] W (RetQE q e W)) :
 Calls Tryz.prog 103 #[.agg #[.bool a.s, .slice A (limbs a.n).length c, .slice B (limbs a.d).length d], .agg #[.bool b.s, .slice A' (limbs b.n).length c', .slice B' (limbs b.d).length d'], .int .i64 t, .pointer (some ⟨g, 0, none⟩)] w (RetQE q e w) := by
 have HC := Lib.hid hC; clear hC
 have HG0 := Lib.hid (And.intro hg (World.block_lt_of_cell? w _ hg)); clear hg
 obtain ⟨wa, hwa⟩ : ∃ wa, wa = ((w.alloc (.cells #[.bool a.s, .slice A (limbs a.n).length c, .slice B (limbs a.d).length d] 25)).alloc (.cells #[.bool b.s, .slice A' (limbs b.n).length c', .slice B' (limbs b.d).length d'] 25)).alloc (.cells #[.bool false, .slice none 0 0, .slice none 0 0] 25) := ⟨_, rfl⟩
 obtain ⟨hbl, CX, CY, RES⟩ := kal3 hwa
 have HW := Lib.hid hbl; clear hbl
 replace CX := Lib.hid CX
 replace CY := Lib.hid CY
 replace RES := Lib.hid RES
 have hg : wa.cell? ⟨g, 0, none⟩ = some (.func (.func 60) #[] #[]) := (HW.out.cell (p := ⟨g, 0, none⟩) HG0.out.2).trans HG0.out.1
 have hgx := hg
 rw [hwa] at hgx
 go_enter Tryz.func103, Tryz.ntmps103
 go_wp2_with fail
 rw [← hwa]
 clear hwa
 obtain ⟨CX0, CX1, CX2⟩ := CX.out.cs3
 obtain ⟨CY0, CY1, CY2⟩ := CY.out.cs3
 refine (HC.out _ HW.out).mono ?_
 rintro e w1 ⟨vx, vy, rfl, hnx, hny, hbl⟩
 replace CX := hmB CX hbl
 replace CY := hmB CY hbl
 replace RES := hmB RES hbl
 replace HW := hmW HW hbl; clear hbl
 clear CX0 CX1 CX2 CY0 CY1 CY2
 obtain ⟨CX0, CX1, CX2⟩ := CX.out.cs3
 obtain ⟨CY0, CY1, CY2⟩ := CY.out.cs3
 have HNx := Lib.hid hnx; clear hnx
 obtain ⟨Ax, cx, rfl, hcx, hrx⟩ := HNx.out.row
 have Rx := Lib.hid hrx; have HCx := Lib.hid hcx; clear hrx hcx
 have HNy := Lib.hid hny; clear hny
 obtain ⟨Ay, cy, rfl, hcy, hry⟩ := HNy.out.row
 have Ry := Lib.hid hry; have HCy := Lib.hid hcy; clear hry hcy
 obtain ⟨d0, d1, d2⟩ := RES.out.cs3
 obtain ⟨f0, f1, f2⟩ := RES.out.fz3
 go_wp2
 exact bodyPost_ret (results_row_tmp rfl _ _ (w.heap.size + 2) 25 _ (0, 0) _ _ rfl rfl (RES.out.put3 _ _ _) Tryz.underlying25 rfl (by kernel_rfl)) rfl ⟨_, _, rfl, (RdN.set3 RES.out (HNx.out) _ _ _), (RdN.set3 RES.out (HNy.out) _ _ _), (bel_set3 (g := w.heap.size + 2) HW.out (by omega) _ _ _)⟩
theorem kBitly_2 {q : Q} {e : Int} (g : Nat) (t : Int) (a b : Q) (A B A' B' : Option Addr) (c d c' d' : Nat) (w : World) (hg : w.cell? ⟨g, 0, none⟩ = some (.func (.func 61) #[] #[])) (hC : ∀ W, Below w.heap.size w W → Calls Tryz.prog 104 #[.agg #[.bool a.s, .slice A (limbs a.n).length c, .slice B (limbs a.d).length d], .agg #[.bool b.s, .slice A' (limbs b.n).length c', .slice B' (limbs b.d).length d'], .func (.func 61) #[] #[]] W (RetQE q e W)) :
 Calls Tryz.prog 103 #[.agg #[.bool a.s, .slice A (limbs a.n).length c, .slice B (limbs a.d).length d], .agg #[.bool b.s, .slice A' (limbs b.n).length c', .slice B' (limbs b.d).length d'], .int .i64 t, .pointer (some ⟨g, 0, none⟩)] w (RetQE q e w) := by
 have HC := Lib.hid hC; clear hC
 have HG0 := Lib.hid (And.intro hg (World.block_lt_of_cell? w _ hg)); clear hg
 obtain ⟨wa, hwa⟩ : ∃ wa, wa = ((w.alloc (.cells #[.bool a.s, .slice A (limbs a.n).length c, .slice B (limbs a.d).length d] 25)).alloc (.cells #[.bool b.s, .slice A' (limbs b.n).length c', .slice B' (limbs b.d).length d'] 25)).alloc (.cells #[.bool false, .slice none 0 0, .slice none 0 0] 25) := ⟨_, rfl⟩
 obtain ⟨hbl, CX, CY, RES⟩ := kal3 hwa
 have HW := Lib.hid hbl; clear hbl
 replace CX := Lib.hid CX
 replace CY := Lib.hid CY
 replace RES := Lib.hid RES
 have hg : wa.cell? ⟨g, 0, none⟩ = some (.func (.func 61) #[] #[]) := (HW.out.cell (p := ⟨g, 0, none⟩) HG0.out.2).trans HG0.out.1
 have hgx := hg
 rw [hwa] at hgx
 go_enter Tryz.func103, Tryz.ntmps103
 go_wp2_with fail
 rw [← hwa]
 clear hwa
 obtain ⟨CX0, CX1, CX2⟩ := CX.out.cs3
 obtain ⟨CY0, CY1, CY2⟩ := CY.out.cs3
 refine (HC.out _ HW.out).mono ?_
 rintro e w1 ⟨vx, vy, rfl, hnx, hny, hbl⟩
 replace CX := hmB CX hbl
 replace CY := hmB CY hbl
 replace RES := hmB RES hbl
 replace HW := hmW HW hbl; clear hbl
 clear CX0 CX1 CX2 CY0 CY1 CY2
 obtain ⟨CX0, CX1, CX2⟩ := CX.out.cs3
 obtain ⟨CY0, CY1, CY2⟩ := CY.out.cs3
 have HNx := Lib.hid hnx; clear hnx
 obtain ⟨Ax, cx, rfl, hcx, hrx⟩ := HNx.out.row
 have Rx := Lib.hid hrx; have HCx := Lib.hid hcx; clear hrx hcx
 have HNy := Lib.hid hny; clear hny
 obtain ⟨Ay, cy, rfl, hcy, hry⟩ := HNy.out.row
 have Ry := Lib.hid hry; have HCy := Lib.hid hcy; clear hry hcy
 obtain ⟨d0, d1, d2⟩ := RES.out.cs3
 obtain ⟨f0, f1, f2⟩ := RES.out.fz3
 go_wp2
 exact bodyPost_ret (results_row_tmp rfl _ _ (w.heap.size + 2) 25 _ (0, 0) _ _ rfl rfl (RES.out.put3 _ _ _) Tryz.underlying25 rfl (by kernel_rfl)) rfl ⟨_, _, rfl, (RdN.set3 RES.out (HNx.out) _ _ _), (RdN.set3 RES.out (HNy.out) _ _ _), (bel_set3 (g := w.heap.size + 2) HW.out (by omega) _ _ _)⟩
theorem kBitly_3 {q : Q} {e : Int} (g : Nat) (t : Int) (a b : Q) (A B A' B' : Option Addr) (c d c' d' : Nat) (w : World) (hg : w.cell? ⟨g, 0, none⟩ = some (.func (.func 62) #[] #[])) (hC : ∀ W, Below w.heap.size w W → Calls Tryz.prog 104 #[.agg #[.bool a.s, .slice A (limbs a.n).length c, .slice B (limbs a.d).length d], .agg #[.bool b.s, .slice A' (limbs b.n).length c', .slice B' (limbs b.d).length d'], .func (.func 62) #[] #[]] W (RetQE q e W)) :
 Calls Tryz.prog 103 #[.agg #[.bool a.s, .slice A (limbs a.n).length c, .slice B (limbs a.d).length d], .agg #[.bool b.s, .slice A' (limbs b.n).length c', .slice B' (limbs b.d).length d'], .int .i64 t, .pointer (some ⟨g, 0, none⟩)] w (RetQE q e w) := by
 have HC := Lib.hid hC; clear hC
 have HG0 := Lib.hid (And.intro hg (World.block_lt_of_cell? w _ hg)); clear hg
 obtain ⟨wa, hwa⟩ : ∃ wa, wa = ((w.alloc (.cells #[.bool a.s, .slice A (limbs a.n).length c, .slice B (limbs a.d).length d] 25)).alloc (.cells #[.bool b.s, .slice A' (limbs b.n).length c', .slice B' (limbs b.d).length d'] 25)).alloc (.cells #[.bool false, .slice none 0 0, .slice none 0 0] 25) := ⟨_, rfl⟩
 obtain ⟨hbl, CX, CY, RES⟩ := kal3 hwa
 have HW := Lib.hid hbl; clear hbl
 replace CX := Lib.hid CX
 replace CY := Lib.hid CY
 replace RES := Lib.hid RES
 have hg : wa.cell? ⟨g, 0, none⟩ = some (.func (.func 62) #[] #[]) := (HW.out.cell (p := ⟨g, 0, none⟩) HG0.out.2).trans HG0.out.1
 have hgx := hg
 rw [hwa] at hgx
 go_enter Tryz.func103, Tryz.ntmps103
 go_wp2_with fail
 rw [← hwa]
 clear hwa
 obtain ⟨CX0, CX1, CX2⟩ := CX.out.cs3
 obtain ⟨CY0, CY1, CY2⟩ := CY.out.cs3
 refine (HC.out _ HW.out).mono ?_
 rintro e w1 ⟨vx, vy, rfl, hnx, hny, hbl⟩
 replace CX := hmB CX hbl
 replace CY := hmB CY hbl
 replace RES := hmB RES hbl
 replace HW := hmW HW hbl; clear hbl
 clear CX0 CX1 CX2 CY0 CY1 CY2
 obtain ⟨CX0, CX1, CX2⟩ := CX.out.cs3
 obtain ⟨CY0, CY1, CY2⟩ := CY.out.cs3
 have HNx := Lib.hid hnx; clear hnx
 obtain ⟨Ax, cx, rfl, hcx, hrx⟩ := HNx.out.row
 have Rx := Lib.hid hrx; have HCx := Lib.hid hcx; clear hrx hcx
 have HNy := Lib.hid hny; clear hny
 obtain ⟨Ay, cy, rfl, hcy, hry⟩ := HNy.out.row
 have Ry := Lib.hid hry; have HCy := Lib.hid hcy; clear hry hcy
 obtain ⟨d0, d1, d2⟩ := RES.out.cs3
 obtain ⟨f0, f1, f2⟩ := RES.out.fz3
 go_wp2
 exact bodyPost_ret (results_row_tmp rfl _ _ (w.heap.size + 2) 25 _ (0, 0) _ _ rfl rfl (RES.out.put3 _ _ _) Tryz.underlying25 rfl (by kernel_rfl)) rfl ⟨_, _, rfl, (RdN.set3 RES.out (HNx.out) _ _ _), (RdN.set3 RES.out (HNy.out) _ _ _), (bel_set3 (g := w.heap.size + 2) HW.out (by omega) _ _ _)⟩
theorem kQuo_bad {q : Q} {e : Int} (t : Int) (a b : Q) (A B A' B' : Option Addr) (c d c' d' : Nat) (w : World) (h1 : RdL w A (limbs a.n)) (h2 : RdL w B (limbs a.d)) (h3 : RdL w A' (limbs b.n)) (h4 : RdL w B' (limbs b.d)) (k1 : (limbs a.n).length ≤ c) (k2 : (limbs a.d).length ≤ d) (k3 : (limbs b.n).length ≤ c') (k4 : (limbs b.d).length ≤ d') (hC : ∀ W A B A' B' c d c' d', RdL W A (limbs a.n) → RdL W B (limbs a.d) → RdL W A' (limbs b.n) → RdL W B' (limbs b.d) → (limbs a.n).length ≤ c → (limbs a.d).length ≤ d → (limbs b.n).length ≤ c' → (limbs b.d).length ≤ d' → Calls Tryz.prog 101 #[.agg #[.bool a.s, .slice A (limbs a.n).length c, .slice B (limbs a.d).length d], .agg #[.bool b.s, .slice A' (limbs b.n).length c', .slice B' (limbs b.d).length d']] W (RetQE q e W)) (he : ¬ e = 0) :
 Calls Tryz.prog 57 #[.agg #[.bool a.s, .slice A (limbs a.n).length c, .slice B (limbs a.d).length d], .agg #[.bool b.s, .slice A' (limbs b.n).length c', .slice B' (limbs b.d).length d'], .int .i64 t] w (RetQE q e w) := by
 have R1 := Lib.hid h1; clear h1
 have R2 := Lib.hid h2; clear h2
 have R3 := Lib.hid h3; clear h3
 have R4 := Lib.hid h4; clear h4
 have K4 := Lib.hid (And.intro k1 (And.intro k2 (And.intro k3 k4))); clear k1 k2 k3 k4
 have HC := Lib.hid hC; clear hC
 have e1 : (e != 0) = true := by simpa using he
 have HE := Lib.hid he
 obtain ⟨wa, hwa⟩ : ∃ wa, wa = ((w.alloc (.cells #[.bool a.s, .slice A (limbs a.n).length c, .slice B (limbs a.d).length d] 25)).alloc (.cells #[.bool b.s, .slice A' (limbs b.n).length c', .slice B' (limbs b.d).length d'] 25)).alloc (.cells #[.bool false, .slice none 0 0, .slice none 0 0] 25) := ⟨_, rfl⟩
 obtain ⟨hbl, CX, CY, RES⟩ := kal3 hwa
 replace R1 := hmR R1 hbl
 replace R2 := hmR R2 hbl
 replace R3 := hmR R3 hbl
 replace R4 := hmR R4 hbl
 have HW := Lib.hid hbl; clear hbl
 replace CX := Lib.hid CX
 replace CY := Lib.hid CY
 replace RES := Lib.hid RES
 go_enter Tryz.func57, Tryz.ntmps57
 go_wp2_with fail
 rw [← hwa]
 clear hwa
 obtain ⟨CX0, CX1, CX2⟩ := CX.out.cs3
 obtain ⟨CY0, CY1, CY2⟩ := CY.out.cs3
 refine (HC.out _ A B A' B' c d c' d' R1.out R2.out R3.out R4.out K4.out.1 K4.out.2.1 K4.out.2.2.1 K4.out.2.2.2).mono ?_
 rintro e w1 ⟨vx, vy, rfl, hnx, hny, hbl⟩
 replace R1 := hmR R1 hbl
 replace R2 := hmR R2 hbl
 replace R3 := hmR R3 hbl
 replace R4 := hmR R4 hbl
 replace CX := hmB CX hbl
 replace CY := hmB CY hbl
 replace RES := hmB RES hbl
 replace HW := hmW HW hbl; clear hbl
 clear CX0 CX1 CX2 CY0 CY1 CY2
 obtain ⟨CX0, CX1, CX2⟩ := CX.out.cs3
 obtain ⟨CY0, CY1, CY2⟩ := CY.out.cs3
 have HNx := Lib.hid hnx; clear hnx
 obtain ⟨Ax, cx, rfl, hcx, hrx⟩ := HNx.out.row
 have Rx := Lib.hid hrx; have HCx := Lib.hid hcx; clear hrx hcx
 have HNy := Lib.hid hny; clear hny
 obtain ⟨Ay, cy, rfl, hcy, hry⟩ := HNy.out.row
 have Ry := Lib.hid hry; have HCy := Lib.hid hcy; clear hry hcy
 obtain ⟨w3, hw3⟩ : ∃ w3, w3 = w1.alloc (.cells #[.bool q.s, .slice Ax (limbs q.n).length cx, .slice Ay (limbs q.d).length cy] 25) := ⟨_, rfl⟩
 have hbl : Below w1.heap.size w1 w3 := by rw [hw3]; exact bel_alloc (bel_refl _) _
 have CQ : Blk w3 w1.heap.size 25 #[.bool q.s, .slice Ax (limbs q.n).length cx, .slice Ay (limbs q.d).length cy] := by rw [hw3]; exact Blk.new _ _ _
 replace CQ := Lib.hid CQ
 go_upto_region 2 with fail
 rw [← hw3]
 clear hw3
 replace R1 := hmR R1 hbl
 replace R2 := hmR R2 hbl
 replace R3 := hmR R3 hbl
 replace R4 := hmR R4 hbl
 replace Rx := hmR Rx hbl
 replace HNx := hmN HNx hbl
 replace Ry := hmR Ry hbl
 replace HNy := hmN HNy hbl
 replace CX := hmB CX hbl
 replace CY := hmB CY hbl
 replace RES := hmB RES hbl
 replace HW := hmW HW hbl; clear hbl
 clear CX0 CX1 CX2 CY0 CY1 CY2
 obtain ⟨CX0, CX1, CX2⟩ := CX.out.cs3
 obtain ⟨CY0, CY1, CY2⟩ := CY.out.cs3
 clear CX0 CX1 CX2 CY0 CY1 CY2
 obtain ⟨CX0, CX1, CX2⟩ := CX.out.cs3
 obtain ⟨CY0, CY1, CY2⟩ := CY.out.cs3
 obtain ⟨CQ0, CQ1, CQ2⟩ := CQ.out.cs3
 obtain ⟨d0, d1, d2⟩ := RES.out.cs3
 obtain ⟨f0, f1, f2⟩ := RES.out.fz3
 go_wp2
 exact bodyPost_ret (results_row_tmp rfl _ _ (w.heap.size + 2) 25 _ (0, 0) _ _ rfl rfl (RES.out.put3 _ _ _) Tryz.underlying25 rfl (by kernel_rfl)) rfl ⟨_, _, rfl, (RdN.set3 RES.out (HNx.out) _ _ _), (RdN.set3 RES.out (HNy.out) _ _ _), (bel_set3 (g := w.heap.size + 2) HW.out (by omega) _ _ _)⟩
theorem kQuo_free {q : Q} (t : Int) (a b : Q) (A B A' B' : Option Addr) (c d c' d' : Nat) (w : World) (h1 : RdL w A (limbs a.n)) (h2 : RdL w B (limbs a.d)) (h3 : RdL w A' (limbs b.n)) (h4 : RdL w B' (limbs b.d)) (k1 : (limbs a.n).length ≤ c) (k2 : (limbs a.d).length ≤ d) (k3 : (limbs b.n).length ≤ c') (k4 : (limbs b.d).length ≤ d') (hC : ∀ W A B A' B' c d c' d', RdL W A (limbs a.n) → RdL W B (limbs a.d) → RdL W A' (limbs b.n) → RdL W B' (limbs b.d) → (limbs a.n).length ≤ c → (limbs a.d).length ≤ d → (limbs b.n).length ≤ c' → (limbs b.d).length ≤ d' → Calls Tryz.prog 101 #[.agg #[.bool a.s, .slice A (limbs a.n).length c, .slice B (limbs a.d).length d], .agg #[.bool b.s, .slice A' (limbs b.n).length c', .slice B' (limbs b.d).length d']] W (RetQE q 0 W)) (hw : wholeB t = false) :
 Calls Tryz.prog 57 #[.agg #[.bool a.s, .slice A (limbs a.n).length c, .slice B (limbs a.d).length d], .agg #[.bool b.s, .slice A' (limbs b.n).length c', .slice B' (limbs b.d).length d'], .int .i64 t] w (RetQE q 0 w) := by
 have R1 := Lib.hid h1; clear h1
 have R2 := Lib.hid h2; clear h2
 have R3 := Lib.hid h3; clear h3
 have R4 := Lib.hid h4; clear h4
 have K4 := Lib.hid (And.intro k1 (And.intro k2 (And.intro k3 k4))); clear k1 k2 k3 k4
 have HC := Lib.hid hC; clear hC
 have KW := Lib.hid (fun W => kWhole_is t W hw); clear hw
 obtain ⟨wa, hwa⟩ : ∃ wa, wa = ((w.alloc (.cells #[.bool a.s, .slice A (limbs a.n).length c, .slice B (limbs a.d).length d] 25)).alloc (.cells #[.bool b.s, .slice A' (limbs b.n).length c', .slice B' (limbs b.d).length d'] 25)).alloc (.cells #[.bool false, .slice none 0 0, .slice none 0 0] 25) := ⟨_, rfl⟩
 obtain ⟨hbl, CX, CY, RES⟩ := kal3 hwa
 replace R1 := hmR R1 hbl
 replace R2 := hmR R2 hbl
 replace R3 := hmR R3 hbl
 replace R4 := hmR R4 hbl
 have HW := Lib.hid hbl; clear hbl
 replace CX := Lib.hid CX
 replace CY := Lib.hid CY
 replace RES := Lib.hid RES
 go_enter Tryz.func57, Tryz.ntmps57
 go_wp2_with fail
 rw [← hwa]
 clear hwa
 obtain ⟨CX0, CX1, CX2⟩ := CX.out.cs3
 obtain ⟨CY0, CY1, CY2⟩ := CY.out.cs3
 refine (HC.out _ A B A' B' c d c' d' R1.out R2.out R3.out R4.out K4.out.1 K4.out.2.1 K4.out.2.2.1 K4.out.2.2.2).mono ?_
 rintro e w1 ⟨vx, vy, rfl, hnx, hny, hbl⟩
 replace R1 := hmR R1 hbl
 replace R2 := hmR R2 hbl
 replace R3 := hmR R3 hbl
 replace R4 := hmR R4 hbl
 replace CX := hmB CX hbl
 replace CY := hmB CY hbl
 replace RES := hmB RES hbl
 replace HW := hmW HW hbl; clear hbl
 clear CX0 CX1 CX2 CY0 CY1 CY2
 obtain ⟨CX0, CX1, CX2⟩ := CX.out.cs3
 obtain ⟨CY0, CY1, CY2⟩ := CY.out.cs3
 have HNx := Lib.hid hnx; clear hnx
 obtain ⟨Ax, cx, rfl, hcx, hrx⟩ := HNx.out.row
 have Rx := Lib.hid hrx; have HCx := Lib.hid hcx; clear hrx hcx
 have HNy := Lib.hid hny; clear hny
 obtain ⟨Ay, cy, rfl, hcy, hry⟩ := HNy.out.row
 have Ry := Lib.hid hry; have HCy := Lib.hid hcy; clear hry hcy
 obtain ⟨w3, hw3⟩ : ∃ w3, w3 = w1.alloc (.cells #[.bool q.s, .slice Ax (limbs q.n).length cx, .slice Ay (limbs q.d).length cy] 25) := ⟨_, rfl⟩
 have hbl : Below w1.heap.size w1 w3 := by rw [hw3]; exact bel_alloc (bel_refl _) _
 have CQ : Blk w3 w1.heap.size 25 #[.bool q.s, .slice Ax (limbs q.n).length cx, .slice Ay (limbs q.d).length cy] := by rw [hw3]; exact Blk.new _ _ _
 replace CQ := Lib.hid CQ
 go_upto_region 2 with fail
 rw [← hw3]
 clear hw3
 replace R1 := hmR R1 hbl
 replace R2 := hmR R2 hbl
 replace R3 := hmR R3 hbl
 replace R4 := hmR R4 hbl
 replace Rx := hmR Rx hbl
 replace HNx := hmN HNx hbl
 replace Ry := hmR Ry hbl
 replace HNy := hmN HNy hbl
 replace CX := hmB CX hbl
 replace CY := hmB CY hbl
 replace RES := hmB RES hbl
 replace HW := hmW HW hbl; clear hbl
 clear CX0 CX1 CX2 CY0 CY1 CY2
 obtain ⟨CX0, CX1, CX2⟩ := CX.out.cs3
 obtain ⟨CY0, CY1, CY2⟩ := CY.out.cs3
 clear CX0 CX1 CX2 CY0 CY1 CY2
 obtain ⟨CX0, CX1, CX2⟩ := CX.out.cs3
 obtain ⟨CY0, CY1, CY2⟩ := CY.out.cs3
 obtain ⟨CQ0, CQ1, CQ2⟩ := CQ.out.cs3
 go_wp2_with fail
 refine (KW.out _).mono ?_
 rintro e wv ⟨rfl, hwv⟩
 obtain rfl := hwv.symm
 clear hwv
 obtain ⟨d0, d1, d2⟩ := RES.out.cs3
 obtain ⟨f0, f1, f2⟩ := RES.out.fz3
 go_wp2
 exact bodyPost_ret (results_row_tmp rfl _ _ (w.heap.size + 2) 25 _ (0, 0) _ _ rfl rfl (RES.out.put3 _ _ _) Tryz.underlying25 rfl (by kernel_rfl)) rfl ⟨_, _, rfl, (RdN.set3 RES.out (HNx.out) _ _ _), (RdN.set3 RES.out (HNy.out) _ _ _), (bel_set3 (g := w.heap.size + 2) HW.out (by omega) _ _ _)⟩
theorem kQuo_whole {q r : Q} (t : Int) (a b : Q) (A B A' B' : Option Addr) (c d c' d' : Nat) (w : World) (h1 : RdL w A (limbs a.n)) (h2 : RdL w B (limbs a.d)) (h3 : RdL w A' (limbs b.n)) (h4 : RdL w B' (limbs b.d)) (k1 : (limbs a.n).length ≤ c) (k2 : (limbs a.d).length ≤ d) (k3 : (limbs b.n).length ≤ c') (k4 : (limbs b.d).length ≤ d') (hC : ∀ W A B A' B' c d c' d', RdL W A (limbs a.n) → RdL W B (limbs a.d) → RdL W A' (limbs b.n) → RdL W B' (limbs b.d) → (limbs a.n).length ≤ c → (limbs a.d).length ≤ d → (limbs b.n).length ≤ c' → (limbs b.d).length ≤ d' → Calls Tryz.prog 101 #[.agg #[.bool a.s, .slice A (limbs a.n).length c, .slice B (limbs a.d).length d], .agg #[.bool b.s, .slice A' (limbs b.n).length c', .slice B' (limbs b.d).length d']] W (RetQE q 0 W)) (hw : wholeB t = true) (hn : q.n < Top) (hd : q.d < Top) (hq : QR q) (hr : redQ q.s (q.n / q.d) 1 = r) :
 Calls Tryz.prog 57 #[.agg #[.bool a.s, .slice A (limbs a.n).length c, .slice B (limbs a.d).length d], .agg #[.bool b.s, .slice A' (limbs b.n).length c', .slice B' (limbs b.d).length d'], .int .i64 t] w (RetQE r 0 w) := by
 have R1 := Lib.hid h1; clear h1
 have R2 := Lib.hid h2; clear h2
 have R3 := Lib.hid h3; clear h3
 have R4 := Lib.hid h4; clear h4
 have K4 := Lib.hid (And.intro k1 (And.intro k2 (And.intro k3 k4))); clear k1 k2 k3 k4
 have HC := Lib.hid hC; clear hC
 have KW := Lib.hid (fun W => kWhole_is t W hw); clear hw
 have HQ := Lib.hid (And.intro hn (And.intro hd (And.intro hq hr))); clear hn hd hq hr
 obtain ⟨wa, hwa⟩ : ∃ wa, wa = ((w.alloc (.cells #[.bool a.s, .slice A (limbs a.n).length c, .slice B (limbs a.d).length d] 25)).alloc (.cells #[.bool b.s, .slice A' (limbs b.n).length c', .slice B' (limbs b.d).length d'] 25)).alloc (.cells #[.bool false, .slice none 0 0, .slice none 0 0] 25) := ⟨_, rfl⟩
 obtain ⟨hbl, CX, CY, RES⟩ := kal3 hwa
 replace R1 := hmR R1 hbl
 replace R2 := hmR R2 hbl
 replace R3 := hmR R3 hbl
 replace R4 := hmR R4 hbl
 have HW := Lib.hid hbl; clear hbl
 replace CX := Lib.hid CX
 replace CY := Lib.hid CY
 replace RES := Lib.hid RES
 go_enter Tryz.func57, Tryz.ntmps57
 go_wp2_with fail
 rw [← hwa]
 clear hwa
 obtain ⟨CX0, CX1, CX2⟩ := CX.out.cs3
 obtain ⟨CY0, CY1, CY2⟩ := CY.out.cs3
 refine (HC.out _ A B A' B' c d c' d' R1.out R2.out R3.out R4.out K4.out.1 K4.out.2.1 K4.out.2.2.1 K4.out.2.2.2).mono ?_
 rintro e w1 ⟨vx, vy, rfl, hnx, hny, hbl⟩
 replace R1 := hmR R1 hbl
 replace R2 := hmR R2 hbl
 replace R3 := hmR R3 hbl
 replace R4 := hmR R4 hbl
 replace CX := hmB CX hbl
 replace CY := hmB CY hbl
 replace RES := hmB RES hbl
 replace HW := hmW HW hbl; clear hbl
 clear CX0 CX1 CX2 CY0 CY1 CY2
 obtain ⟨CX0, CX1, CX2⟩ := CX.out.cs3
 obtain ⟨CY0, CY1, CY2⟩ := CY.out.cs3
 have HNx := Lib.hid hnx; clear hnx
 obtain ⟨Ax, cx, rfl, hcx, hrx⟩ := HNx.out.row
 have Rx := Lib.hid hrx; have HCx := Lib.hid hcx; clear hrx hcx
 have HNy := Lib.hid hny; clear hny
 obtain ⟨Ay, cy, rfl, hcy, hry⟩ := HNy.out.row
 have Ry := Lib.hid hry; have HCy := Lib.hid hcy; clear hry hcy
 obtain ⟨w3, hw3⟩ : ∃ w3, w3 = w1.alloc (.cells #[.bool q.s, .slice Ax (limbs q.n).length cx, .slice Ay (limbs q.d).length cy] 25) := ⟨_, rfl⟩
 have hbl : Below w1.heap.size w1 w3 := by rw [hw3]; exact bel_alloc (bel_refl _) _
 have CQ : Blk w3 w1.heap.size 25 #[.bool q.s, .slice Ax (limbs q.n).length cx, .slice Ay (limbs q.d).length cy] := by rw [hw3]; exact Blk.new _ _ _
 replace CQ := Lib.hid CQ
 go_upto_region 2 with fail
 rw [← hw3]
 clear hw3
 replace R1 := hmR R1 hbl
 replace R2 := hmR R2 hbl
 replace R3 := hmR R3 hbl
 replace R4 := hmR R4 hbl
 replace Rx := hmR Rx hbl
 replace HNx := hmN HNx hbl
 replace Ry := hmR Ry hbl
 replace HNy := hmN HNy hbl
 replace CX := hmB CX hbl
 replace CY := hmB CY hbl
 replace RES := hmB RES hbl
 replace HW := hmW HW hbl; clear hbl
 clear CX0 CX1 CX2 CY0 CY1 CY2
 obtain ⟨CX0, CX1, CX2⟩ := CX.out.cs3
 obtain ⟨CY0, CY1, CY2⟩ := CY.out.cs3
 clear CX0 CX1 CX2 CY0 CY1 CY2
 obtain ⟨CX0, CX1, CX2⟩ := CX.out.cs3
 obtain ⟨CY0, CY1, CY2⟩ := CY.out.cs3
 obtain ⟨CQ0, CQ1, CQ2⟩ := CQ.out.cs3
 go_wp2_with fail
 refine (KW.out _).mono ?_
 rintro e wv ⟨rfl, hwv⟩
 obtain rfl := hwv.symm
 clear hwv
 go_wp2_with fail
 refine (trunc_q q Ax Ay cx cy _ Rx.out Ry.out HCx.out HCy.out HQ.out.1 HQ.out.2.1 HQ.out.2.2.1 HQ.out.2.2.2).mono ?_
 rintro e w2 ⟨vz, vu, rfl, hnz, hnu, hbl⟩
 replace R1 := hmR R1 hbl
 replace R2 := hmR R2 hbl
 replace R3 := hmR R3 hbl
 replace R4 := hmR R4 hbl
 replace Rx := hmR Rx hbl
 replace HNx := hmN HNx hbl
 replace Ry := hmR Ry hbl
 replace HNy := hmN HNy hbl
 replace CX := hmB CX hbl
 replace CY := hmB CY hbl
 replace RES := hmB RES hbl
 replace CQ := hmB CQ hbl
 replace HW := hmW HW hbl; clear hbl
 clear CX0 CX1 CX2 CY0 CY1 CY2 CQ0 CQ1 CQ2
 obtain ⟨CX0, CX1, CX2⟩ := CX.out.cs3
 obtain ⟨CY0, CY1, CY2⟩ := CY.out.cs3
 obtain ⟨CQ0, CQ1, CQ2⟩ := CQ.out.cs3
 have HNz := Lib.hid hnz; clear hnz
 obtain ⟨Az, cz, rfl, hcz, hrz⟩ := HNz.out.row
 have Rz := Lib.hid hrz; have HCz := Lib.hid hcz; clear hrz hcz
 have HNu := Lib.hid hnu; clear hnu
 obtain ⟨Au, cu, rfl, hcu, hru⟩ := HNu.out.row
 have Ru := Lib.hid hru; have HCu := Lib.hid hcu; clear hru hcu
 obtain ⟨d0, d1, d2⟩ := RES.out.cs3
 obtain ⟨f0, f1, f2⟩ := RES.out.fz3
 go_wp2
 exact bodyPost_ret (results_row_tmp rfl _ _ (w.heap.size + 2) 25 _ (0, 0) _ _ rfl rfl (RES.out.put3 _ _ _) Tryz.underlying25 rfl (by kernel_rfl)) rfl ⟨_, _, rfl, (RdN.set3 RES.out (HNz.out) _ _ _), (RdN.set3 RES.out (HNu.out) _ _ _), (bel_set3 (g := w.heap.size + 2) HW.out (by omega) _ _ _)⟩
theorem kLeft_bad {q : Q} {e : Int} (t : Int) (a b : Q) (A B A' B' : Option Addr) (c d c' d' : Nat) (w : World) (h1 : RdL w A (limbs a.n)) (h2 : RdL w B (limbs a.d)) (h3 : RdL w A' (limbs b.n)) (h4 : RdL w B' (limbs b.d)) (k1 : (limbs a.n).length ≤ c) (k2 : (limbs a.d).length ≤ d) (k3 : (limbs b.n).length ≤ c') (k4 : (limbs b.d).length ≤ d') (hC : ∀ W A B A' B' c d c' d', RdL W A (limbs a.n) → RdL W B (limbs a.d) → RdL W A' (limbs b.n) → RdL W B' (limbs b.d) → (limbs a.n).length ≤ c → (limbs a.d).length ≤ d → (limbs b.n).length ≤ c' → (limbs b.d).length ≤ d' → Calls Tryz.prog 57 #[.agg #[.bool a.s, .slice A (limbs a.n).length c, .slice B (limbs a.d).length d], .agg #[.bool b.s, .slice A' (limbs b.n).length c', .slice B' (limbs b.d).length d'], .int .i64 t] W (RetQE q e W)) (he : ¬ e = 0) :
 Calls Tryz.prog 58 #[.agg #[.bool a.s, .slice A (limbs a.n).length c, .slice B (limbs a.d).length d], .agg #[.bool b.s, .slice A' (limbs b.n).length c', .slice B' (limbs b.d).length d'], .int .i64 t] w (RetQE q e w) := by
 have R1 := Lib.hid h1; clear h1
 have R2 := Lib.hid h2; clear h2
 have R3 := Lib.hid h3; clear h3
 have R4 := Lib.hid h4; clear h4
 have K4 := Lib.hid (And.intro k1 (And.intro k2 (And.intro k3 k4))); clear k1 k2 k3 k4
 have HC := Lib.hid hC; clear hC
 have e1 : (e != 0) = true := by simpa using he
 have HE := Lib.hid he
 obtain ⟨wa, hwa⟩ : ∃ wa, wa = ((w.alloc (.cells #[.bool a.s, .slice A (limbs a.n).length c, .slice B (limbs a.d).length d] 25)).alloc (.cells #[.bool b.s, .slice A' (limbs b.n).length c', .slice B' (limbs b.d).length d'] 25)).alloc (.cells #[.bool false, .slice none 0 0, .slice none 0 0] 25) := ⟨_, rfl⟩
 obtain ⟨hbl, CX, CY, RES⟩ := kal3 hwa
 replace R1 := hmR R1 hbl
 replace R2 := hmR R2 hbl
 replace R3 := hmR R3 hbl
 replace R4 := hmR R4 hbl
 have HW := Lib.hid hbl; clear hbl
 replace CX := Lib.hid CX
 replace CY := Lib.hid CY
 replace RES := Lib.hid RES
 go_enter Tryz.func58, Tryz.ntmps58
 go_wp2_with fail
 rw [← hwa]
 clear hwa
 obtain ⟨CX0, CX1, CX2⟩ := CX.out.cs3
 obtain ⟨CY0, CY1, CY2⟩ := CY.out.cs3
 refine (HC.out _ A B A' B' c d c' d' R1.out R2.out R3.out R4.out K4.out.1 K4.out.2.1 K4.out.2.2.1 K4.out.2.2.2).mono ?_
 rintro e w1 ⟨vx, vy, rfl, hnx, hny, hbl⟩
 replace R1 := hmR R1 hbl
 replace R2 := hmR R2 hbl
 replace R3 := hmR R3 hbl
 replace R4 := hmR R4 hbl
 replace CX := hmB CX hbl
 replace CY := hmB CY hbl
 replace RES := hmB RES hbl
 replace HW := hmW HW hbl; clear hbl
 clear CX0 CX1 CX2 CY0 CY1 CY2
 obtain ⟨CX0, CX1, CX2⟩ := CX.out.cs3
 obtain ⟨CY0, CY1, CY2⟩ := CY.out.cs3
 have HNx := Lib.hid hnx; clear hnx
 obtain ⟨Ax, cx, rfl, hcx, hrx⟩ := HNx.out.row
 have Rx := Lib.hid hrx; have HCx := Lib.hid hcx; clear hrx hcx
 have HNy := Lib.hid hny; clear hny
 obtain ⟨Ay, cy, rfl, hcy, hry⟩ := HNy.out.row
 have Ry := Lib.hid hry; have HCy := Lib.hid hcy; clear hry hcy
 obtain ⟨w3, hw3⟩ : ∃ w3, w3 = w1.alloc (.cells #[.bool q.s, .slice Ax (limbs q.n).length cx, .slice Ay (limbs q.d).length cy] 25) := ⟨_, rfl⟩
 have hbl : Below w1.heap.size w1 w3 := by rw [hw3]; exact bel_alloc (bel_refl _) _
 have CQ : Blk w3 w1.heap.size 25 #[.bool q.s, .slice Ax (limbs q.n).length cx, .slice Ay (limbs q.d).length cy] := by rw [hw3]; exact Blk.new _ _ _
 replace CQ := Lib.hid CQ
 go_upto_region 2 with fail
 rw [← hw3]
 clear hw3
 replace R1 := hmR R1 hbl
 replace R2 := hmR R2 hbl
 replace R3 := hmR R3 hbl
 replace R4 := hmR R4 hbl
 replace Rx := hmR Rx hbl
 replace HNx := hmN HNx hbl
 replace Ry := hmR Ry hbl
 replace HNy := hmN HNy hbl
 replace CX := hmB CX hbl
 replace CY := hmB CY hbl
 replace RES := hmB RES hbl
 replace HW := hmW HW hbl; clear hbl
 clear CX0 CX1 CX2 CY0 CY1 CY2
 obtain ⟨CX0, CX1, CX2⟩ := CX.out.cs3
 obtain ⟨CY0, CY1, CY2⟩ := CY.out.cs3
 clear CX0 CX1 CX2 CY0 CY1 CY2
 obtain ⟨CX0, CX1, CX2⟩ := CX.out.cs3
 obtain ⟨CY0, CY1, CY2⟩ := CY.out.cs3
 obtain ⟨CQ0, CQ1, CQ2⟩ := CQ.out.cs3
 obtain ⟨d0, d1, d2⟩ := RES.out.cs3
 obtain ⟨f0, f1, f2⟩ := RES.out.fz3
 go_wp2
 exact bodyPost_ret (results_row_tmp rfl _ _ (w.heap.size + 2) 25 _ (0, 0) _ _ rfl rfl (RES.out.put3 _ _ _) Tryz.underlying25 rfl (by kernel_rfl)) rfl ⟨_, _, rfl, (RdN.set3 RES.out (HNx.out) _ _ _), (RdN.set3 RES.out (HNy.out) _ _ _), (bel_set3 (g := w.heap.size + 2) HW.out (by omega) _ _ _)⟩
theorem kLeft_fit {q p r : Q} {e : Int} (t : Int) (a b : Q) (A B A' B' : Option Addr) (c d c' d' : Nat) (w : World) (h1 : RdL w A (limbs a.n)) (h2 : RdL w B (limbs a.d)) (h3 : RdL w A' (limbs b.n)) (h4 : RdL w B' (limbs b.d)) (k1 : (limbs a.n).length ≤ c) (k2 : (limbs a.d).length ≤ d) (k3 : (limbs b.n).length ≤ c') (k4 : (limbs b.d).length ≤ d') (hC : ∀ W A B A' B' c d c' d', RdL W A (limbs a.n) → RdL W B (limbs a.d) → RdL W A' (limbs b.n) → RdL W B' (limbs b.d) → (limbs a.n).length ≤ c → (limbs a.d).length ≤ d → (limbs b.n).length ≤ c' → (limbs b.d).length ≤ d' → Calls Tryz.prog 57 #[.agg #[.bool a.s, .slice A (limbs a.n).length c, .slice B (limbs a.d).length d], .agg #[.bool b.s, .slice A' (limbs b.n).length c', .slice B' (limbs b.d).length d'], .int .i64 t] W (RetQE q 0 W)) (hM : ∀ W E F c d, RdL W E (limbs q.n) → RdL W F (limbs q.d) → (limbs q.n).length ≤ c → (limbs q.d).length ≤ d → ∀ A' B' c' d', RdL W A' (limbs b.n) → RdL W B' (limbs b.d) → (limbs b.n).length ≤ c' → (limbs b.d).length ≤ d' → Calls Tryz.prog 56 #[.agg #[.bool q.s, .slice E (limbs q.n).length c, .slice F (limbs q.d).length d], .agg #[.bool b.s, .slice A' (limbs b.n).length c', .slice B' (limbs b.d).length d']] W (RetQE p 0 W)) (hS : ∀ W A B c d, RdL W A (limbs a.n) → RdL W B (limbs a.d) → (limbs a.n).length ≤ c → (limbs a.d).length ≤ d → ∀ E F c' d', RdL W E (limbs p.n) → RdL W F (limbs p.d) → (limbs p.n).length ≤ c' → (limbs p.d).length ≤ d' → Calls Tryz.prog 55 #[.agg #[.bool a.s, .slice A (limbs a.n).length c, .slice B (limbs a.d).length d], .agg #[.bool p.s, .slice E (limbs p.n).length c', .slice F (limbs p.d).length d']] W (RetQE r e W)) :
 Calls Tryz.prog 58 #[.agg #[.bool a.s, .slice A (limbs a.n).length c, .slice B (limbs a.d).length d], .agg #[.bool b.s, .slice A' (limbs b.n).length c', .slice B' (limbs b.d).length d'], .int .i64 t] w (RetQE r e w) := by
 have R1 := Lib.hid h1; clear h1
 have R2 := Lib.hid h2; clear h2
 have R3 := Lib.hid h3; clear h3
 have R4 := Lib.hid h4; clear h4
 have K4 := Lib.hid (And.intro k1 (And.intro k2 (And.intro k3 k4))); clear k1 k2 k3 k4
 have HC := Lib.hid hC; clear hC
 have HM := Lib.hid hM; clear hM
 have HS := Lib.hid hS; clear hS
 obtain ⟨wa, hwa⟩ : ∃ wa, wa = ((w.alloc (.cells #[.bool a.s, .slice A (limbs a.n).length c, .slice B (limbs a.d).length d] 25)).alloc (.cells #[.bool b.s, .slice A' (limbs b.n).length c', .slice B' (limbs b.d).length d'] 25)).alloc (.cells #[.bool false, .slice none 0 0, .slice none 0 0] 25) := ⟨_, rfl⟩
 obtain ⟨hbl, CX, CY, RES⟩ := kal3 hwa
 replace R1 := hmR R1 hbl
 replace R2 := hmR R2 hbl
 replace R3 := hmR R3 hbl
 replace R4 := hmR R4 hbl
 have HW := Lib.hid hbl; clear hbl
 replace CX := Lib.hid CX
 replace CY := Lib.hid CY
 replace RES := Lib.hid RES
 go_enter Tryz.func58, Tryz.ntmps58
 go_wp2_with fail
 rw [← hwa]
 clear hwa
 obtain ⟨CX0, CX1, CX2⟩ := CX.out.cs3
 obtain ⟨CY0, CY1, CY2⟩ := CY.out.cs3
 refine (HC.out _ A B A' B' c d c' d' R1.out R2.out R3.out R4.out K4.out.1 K4.out.2.1 K4.out.2.2.1 K4.out.2.2.2).mono ?_
 rintro e w1 ⟨vx, vy, rfl, hnx, hny, hbl⟩
 replace R1 := hmR R1 hbl
 replace R2 := hmR R2 hbl
 replace R3 := hmR R3 hbl
 replace R4 := hmR R4 hbl
 replace CX := hmB CX hbl
 replace CY := hmB CY hbl
 replace RES := hmB RES hbl
 replace HW := hmW HW hbl; clear hbl
 clear CX0 CX1 CX2 CY0 CY1 CY2
 obtain ⟨CX0, CX1, CX2⟩ := CX.out.cs3
 obtain ⟨CY0, CY1, CY2⟩ := CY.out.cs3
 have HNx := Lib.hid hnx; clear hnx
 obtain ⟨Ax, cx, rfl, hcx, hrx⟩ := HNx.out.row
 have Rx := Lib.hid hrx; have HCx := Lib.hid hcx; clear hrx hcx
 have HNy := Lib.hid hny; clear hny
 obtain ⟨Ay, cy, rfl, hcy, hry⟩ := HNy.out.row
 have Ry := Lib.hid hry; have HCy := Lib.hid hcy; clear hry hcy
 obtain ⟨w3, hw3⟩ : ∃ w3, w3 = w1.alloc (.cells #[.bool q.s, .slice Ax (limbs q.n).length cx, .slice Ay (limbs q.d).length cy] 25) := ⟨_, rfl⟩
 have hbl : Below w1.heap.size w1 w3 := by rw [hw3]; exact bel_alloc (bel_refl _) _
 have CQ : Blk w3 w1.heap.size 25 #[.bool q.s, .slice Ax (limbs q.n).length cx, .slice Ay (limbs q.d).length cy] := by rw [hw3]; exact Blk.new _ _ _
 replace CQ := Lib.hid CQ
 go_upto_region 2 with fail
 rw [← hw3]
 clear hw3
 replace R1 := hmR R1 hbl
 replace R2 := hmR R2 hbl
 replace R3 := hmR R3 hbl
 replace R4 := hmR R4 hbl
 replace Rx := hmR Rx hbl
 replace HNx := hmN HNx hbl
 replace Ry := hmR Ry hbl
 replace HNy := hmN HNy hbl
 replace CX := hmB CX hbl
 replace CY := hmB CY hbl
 replace RES := hmB RES hbl
 replace HW := hmW HW hbl; clear hbl
 clear CX0 CX1 CX2 CY0 CY1 CY2
 obtain ⟨CX0, CX1, CX2⟩ := CX.out.cs3
 obtain ⟨CY0, CY1, CY2⟩ := CY.out.cs3
 clear CX0 CX1 CX2 CY0 CY1 CY2
 obtain ⟨CX0, CX1, CX2⟩ := CX.out.cs3
 obtain ⟨CY0, CY1, CY2⟩ := CY.out.cs3
 obtain ⟨CQ0, CQ1, CQ2⟩ := CQ.out.cs3
 go_wp2_with fail
 refine (HM.out _ Ax Ay cx cy Rx.out Ry.out HCx.out HCy.out A' B' c' d' R3.out R4.out K4.out.2.2.1 K4.out.2.2.2).mono ?_
 rintro e w2 ⟨vz, vu, rfl, hnz, hnu, hbl⟩
 replace R1 := hmR R1 hbl
 replace R2 := hmR R2 hbl
 replace R3 := hmR R3 hbl
 replace R4 := hmR R4 hbl
 replace Rx := hmR Rx hbl
 replace HNx := hmN HNx hbl
 replace Ry := hmR Ry hbl
 replace HNy := hmN HNy hbl
 replace CX := hmB CX hbl
 replace CY := hmB CY hbl
 replace RES := hmB RES hbl
 replace CQ := hmB CQ hbl
 replace HW := hmW HW hbl; clear hbl
 clear CX0 CX1 CX2 CY0 CY1 CY2 CQ0 CQ1 CQ2
 obtain ⟨CX0, CX1, CX2⟩ := CX.out.cs3
 obtain ⟨CY0, CY1, CY2⟩ := CY.out.cs3
 obtain ⟨CQ0, CQ1, CQ2⟩ := CQ.out.cs3
 have HNz := Lib.hid hnz; clear hnz
 obtain ⟨Az, cz, rfl, hcz, hrz⟩ := HNz.out.row
 have Rz := Lib.hid hrz; have HCz := Lib.hid hcz; clear hrz hcz
 have HNu := Lib.hid hnu; clear hnu
 obtain ⟨Au, cu, rfl, hcu, hru⟩ := HNu.out.row
 have Ru := Lib.hid hru; have HCu := Lib.hid hcu; clear hru hcu
 obtain ⟨w5, hw5⟩ : ∃ w5, w5 = w2.alloc (.cells #[.bool p.s, .slice Az (limbs p.n).length cz, .slice Au (limbs p.d).length cu] 25) := ⟨_, rfl⟩
 have hbl : Below w2.heap.size w2 w5 := by rw [hw5]; exact bel_alloc (bel_refl _) _
 have CP : Blk w5 w2.heap.size 25 #[.bool p.s, .slice Az (limbs p.n).length cz, .slice Au (limbs p.d).length cu] := by rw [hw5]; exact Blk.new _ _ _
 replace CP := Lib.hid CP
 go_upto_region 5 with fail
 rw [← hw5]
 clear hw5
 replace R1 := hmR R1 hbl
 replace R2 := hmR R2 hbl
 replace R3 := hmR R3 hbl
 replace R4 := hmR R4 hbl
 replace Rx := hmR Rx hbl
 replace HNx := hmN HNx hbl
 replace Ry := hmR Ry hbl
 replace HNy := hmN HNy hbl
 replace Rz := hmR Rz hbl
 replace HNz := hmN HNz hbl
 replace Ru := hmR Ru hbl
 replace HNu := hmN HNu hbl
 replace CX := hmB CX hbl
 replace CY := hmB CY hbl
 replace RES := hmB RES hbl
 replace CQ := hmB CQ hbl
 replace HW := hmW HW hbl; clear hbl
 clear CX0 CX1 CX2 CY0 CY1 CY2 CQ0 CQ1 CQ2
 obtain ⟨CX0, CX1, CX2⟩ := CX.out.cs3
 obtain ⟨CY0, CY1, CY2⟩ := CY.out.cs3
 obtain ⟨CQ0, CQ1, CQ2⟩ := CQ.out.cs3
 clear CX0 CX1 CX2 CY0 CY1 CY2 CQ0 CQ1 CQ2
 obtain ⟨CX0, CX1, CX2⟩ := CX.out.cs3
 obtain ⟨CY0, CY1, CY2⟩ := CY.out.cs3
 obtain ⟨CQ0, CQ1, CQ2⟩ := CQ.out.cs3
 obtain ⟨CP0, CP1, CP2⟩ := CP.out.cs3
 go_wp2_with fail
 refine (HS.out _ A B c d R1.out R2.out K4.out.1 K4.out.2.1 Az Au cz cu Rz.out Ru.out HCz.out HCu.out).mono ?_
 rintro e w3 ⟨vv, vy2, rfl, hnv, hny2, hbl⟩
 replace R1 := hmR R1 hbl
 replace R2 := hmR R2 hbl
 replace R3 := hmR R3 hbl
 replace R4 := hmR R4 hbl
 replace Rx := hmR Rx hbl
 replace HNx := hmN HNx hbl
 replace Ry := hmR Ry hbl
 replace HNy := hmN HNy hbl
 replace Rz := hmR Rz hbl
 replace HNz := hmN HNz hbl
 replace Ru := hmR Ru hbl
 replace HNu := hmN HNu hbl
 replace CX := hmB CX hbl
 replace CY := hmB CY hbl
 replace RES := hmB RES hbl
 replace CQ := hmB CQ hbl
 replace CP := hmB CP hbl
 replace HW := hmW HW hbl; clear hbl
 clear CX0 CX1 CX2 CY0 CY1 CY2 CQ0 CQ1 CQ2 CP0 CP1 CP2
 obtain ⟨CX0, CX1, CX2⟩ := CX.out.cs3
 obtain ⟨CY0, CY1, CY2⟩ := CY.out.cs3
 obtain ⟨CQ0, CQ1, CQ2⟩ := CQ.out.cs3
 obtain ⟨CP0, CP1, CP2⟩ := CP.out.cs3
 have HNv := Lib.hid hnv; clear hnv
 obtain ⟨Av, cv, rfl, hcv, hrv⟩ := HNv.out.row
 have Rv := Lib.hid hrv; have HCv := Lib.hid hcv; clear hrv hcv
 have HNy2 := Lib.hid hny2; clear hny2
 obtain ⟨Ay2, cy2, rfl, hcy2, hry2⟩ := HNy2.out.row
 have Ry2 := Lib.hid hry2; have HCy2 := Lib.hid hcy2; clear hry2 hcy2
 obtain ⟨d0, d1, d2⟩ := RES.out.cs3
 obtain ⟨f0, f1, f2⟩ := RES.out.fz3
 go_wp2
 exact bodyPost_ret (results_row_tmp rfl _ _ (w.heap.size + 2) 25 _ (0, 0) _ _ rfl rfl (RES.out.put3 _ _ _) Tryz.underlying25 rfl (by kernel_rfl)) rfl ⟨_, _, rfl, (RdN.set3 RES.out (HNv.out) _ _ _), (RdN.set3 RES.out (HNy2.out) _ _ _), (bel_set3 (g := w.heap.size + 2) HW.out (by omega) _ _ _)⟩
end
end Go.Proofs.YtmbbdjpnecjleaaGreat
