/-
 Parts: K21.
-/
import Derived.Test.YtmbbdjpnecjleaaGreatG30
import Derived.Test.YtmbbdjpnecjleaaGreatG26
namespace Go.Proofs.YtmbbdjpnecjleaaGreat
section
set_option maxRecDepth 100000
set_option maxHeartbeats 1000000
open Go.RowKit

theorem red_one (x : Nat) : redQ false x 1 = ⟨false, x, 1⟩ := by
 unfold redQ
 split
 · subst x; rfl
 · rw [Nat.gcd_one_right, Nat.div_one]
theorem opB_tests {k : Nat} {op : ByteArray} (hk : k < 3) (h : opB k = op) : (op.toList == [43]) = false ∧ ¬ op.toList = [43] ∧ (op.toList == [45]) = false ∧ ¬ op.toList = [45] ∧ (op.toList == [42]) = false ∧ ¬ op.toList = [42] ∧ (op.toList == [47]) = false ∧ ¬ op.toList = [47] ∧ (op.toList == [37]) = false ∧ ¬ op.toList = [37] := by
 subst h
 have hc : k = 0 ∨ k = 1 ∨ k = 2 := by omega
 rcases hc with rfl | rfl | rfl <;> decide +kernel
theorem rRk_add {f : Q} {k0 fs : Bool} {k e : Int} {n d : ByteArray} (a b : Q) (t : Int) (w : World) (hN : ∀ W, Calls Tryz.prog 76 #[.agg #[.bool f.s, .string (dec f.n), .string (dec f.d), .bool k0]] W (RetRV k false ⟨#[]⟩ fs n d e W)) (hC : ∀ W, Calls Tryz.prog 77 #[.agg #[.bool a.s, .string (dec a.n), .string (dec a.d), .bool false], .agg #[.bool b.s, .string (dec b.n), .string (dec b.d), .bool false]] W (RetFr f k0 W)) :
 Calls Tryz.prog 42 #[.string ⟨#[43]⟩, .agg #[.bool a.s, .string (dec a.n), .string (dec a.d), .bool false], .agg #[.bool b.s, .string (dec b.n), .string (dec b.d), .bool false], .int .i64 t] w (RetRV k false ⟨#[]⟩ fs n d e w) := by
 have HN := Lib.hid hN; clear hN
 have HC := Lib.hid hC; clear hC
 obtain ⟨wa, hwa⟩ : ∃ wa, wa = ((w.alloc (.cells #[.bool a.s, .string (dec a.n), .string (dec a.d), .bool false] 37)).alloc (.cells #[.bool b.s, .string (dec b.n), .string (dec b.d), .bool false] 37)).alloc (.cells #[.int .i64 0, .bool false, .string ⟨#[]⟩, .bool false, .string ⟨#[]⟩, .string ⟨#[]⟩, .bool false, .int .i64 0] 39) := ⟨_, rfl⟩
 obtain ⟨hbl, CX, CY, RES⟩ := kal3 hwa
 have HW := Lib.hid hbl; clear hbl
 replace CX := Lib.hid CX
 replace CY := Lib.hid CY
 replace RES := Lib.hid RES
 go_enter Tryz.func42, Tryz.ntmps42
 go_upto_region 1 with fail
 rw [← hwa]
 clear hwa
 obtain ⟨CX0, CX1, CX2, CX3⟩ := CX.out.cs4
 obtain ⟨CY0, CY1, CY2, CY3⟩ := CY.out.cs4
 go_wp2_with fail
 refine (HC.out _).mono ?_
 rintro e w1 ⟨rfl, hbl⟩
 replace CX := hmB CX hbl
 replace CY := hmB CY hbl
 replace RES := hmB RES hbl
 replace HW := hmW HW hbl; clear hbl
 clear CX0 CX1 CX2 CX3 CY0 CY1 CY2 CY3
 obtain ⟨CX0, CX1, CX2, CX3⟩ := CX.out.cs4
 obtain ⟨CY0, CY1, CY2, CY3⟩ := CY.out.cs4
 go_wp2_with fail
 refine (HN.out _).mono ?_
 rintro e w2 ⟨rfl, hbl⟩
 replace CX := hmB CX hbl
 replace CY := hmB CY hbl
 replace RES := hmB RES hbl
 replace HW := hmW HW hbl; clear hbl
 clear CX0 CX1 CX2 CX3 CY0 CY1 CY2 CY3
 obtain ⟨CX0, CX1, CX2, CX3⟩ := CX.out.cs4
 obtain ⟨CY0, CY1, CY2, CY3⟩ := CY.out.cs4
 obtain ⟨d0, d1, d2, d3, d4, d5, d6, d7⟩ := RES.out.cs8
 obtain ⟨f0, f1, f2, f3, f4, f5, f6, f7⟩ := RES.out.fz8
 go_wp2
 exact bodyPost_ret (results_cell_row rfl _ _ (w.heap.size + 2) 39 _ (0, 0) _ rfl (RES.out.put8 _ _ _ _ _ _ _ _) Tryz.underlying39 rfl (by kernel_rfl)) rfl ⟨rfl, (bel_set8 (g := w.heap.size + 2) HW.out (by omega) _ _ _ _ _ _ _ _)⟩
theorem rRk_sub {f : Q} {k0 fs : Bool} {k e : Int} {n d : ByteArray} (a b : Q) (t : Int) (w : World) (hN : ∀ W, Calls Tryz.prog 76 #[.agg #[.bool f.s, .string (dec f.n), .string (dec f.d), .bool k0]] W (RetRV k false ⟨#[]⟩ fs n d e W)) (hC : ∀ W, Calls Tryz.prog 78 #[.agg #[.bool a.s, .string (dec a.n), .string (dec a.d), .bool false], .agg #[.bool b.s, .string (dec b.n), .string (dec b.d), .bool false]] W (RetFr f k0 W)) :
 Calls Tryz.prog 42 #[.string ⟨#[45]⟩, .agg #[.bool a.s, .string (dec a.n), .string (dec a.d), .bool false], .agg #[.bool b.s, .string (dec b.n), .string (dec b.d), .bool false], .int .i64 t] w (RetRV k false ⟨#[]⟩ fs n d e w) := by
 have HN := Lib.hid hN; clear hN
 have HC := Lib.hid hC; clear hC
 obtain ⟨wa, hwa⟩ : ∃ wa, wa = ((w.alloc (.cells #[.bool a.s, .string (dec a.n), .string (dec a.d), .bool false] 37)).alloc (.cells #[.bool b.s, .string (dec b.n), .string (dec b.d), .bool false] 37)).alloc (.cells #[.int .i64 0, .bool false, .string ⟨#[]⟩, .bool false, .string ⟨#[]⟩, .string ⟨#[]⟩, .bool false, .int .i64 0] 39) := ⟨_, rfl⟩
 obtain ⟨hbl, CX, CY, RES⟩ := kal3 hwa
 have HW := Lib.hid hbl; clear hbl
 replace CX := Lib.hid CX
 replace CY := Lib.hid CY
 replace RES := Lib.hid RES
 go_enter Tryz.func42, Tryz.ntmps42
 go_upto_region 1 with fail
 rw [← hwa]
 clear hwa
 obtain ⟨CX0, CX1, CX2, CX3⟩ := CX.out.cs4
 obtain ⟨CY0, CY1, CY2, CY3⟩ := CY.out.cs4
 go_wp2_with fail
 refine (HC.out _).mono ?_
 rintro e w1 ⟨rfl, hbl⟩
 replace CX := hmB CX hbl
 replace CY := hmB CY hbl
 replace RES := hmB RES hbl
 replace HW := hmW HW hbl; clear hbl
 clear CX0 CX1 CX2 CX3 CY0 CY1 CY2 CY3
 obtain ⟨CX0, CX1, CX2, CX3⟩ := CX.out.cs4
 obtain ⟨CY0, CY1, CY2, CY3⟩ := CY.out.cs4
 go_wp2_with fail
 refine (HN.out _).mono ?_
 rintro e w2 ⟨rfl, hbl⟩
 replace CX := hmB CX hbl
 replace CY := hmB CY hbl
 replace RES := hmB RES hbl
 replace HW := hmW HW hbl; clear hbl
 clear CX0 CX1 CX2 CX3 CY0 CY1 CY2 CY3
 obtain ⟨CX0, CX1, CX2, CX3⟩ := CX.out.cs4
 obtain ⟨CY0, CY1, CY2, CY3⟩ := CY.out.cs4
 obtain ⟨d0, d1, d2, d3, d4, d5, d6, d7⟩ := RES.out.cs8
 obtain ⟨f0, f1, f2, f3, f4, f5, f6, f7⟩ := RES.out.fz8
 go_wp2
 exact bodyPost_ret (results_cell_row rfl _ _ (w.heap.size + 2) 39 _ (0, 0) _ rfl (RES.out.put8 _ _ _ _ _ _ _ _) Tryz.underlying39 rfl (by kernel_rfl)) rfl ⟨rfl, (bel_set8 (g := w.heap.size + 2) HW.out (by omega) _ _ _ _ _ _ _ _)⟩
theorem rRk_mul {f : Q} {k0 fs : Bool} {k e : Int} {n d : ByteArray} (a b : Q) (t : Int) (w : World) (hN : ∀ W, Calls Tryz.prog 76 #[.agg #[.bool f.s, .string (dec f.n), .string (dec f.d), .bool k0]] W (RetRV k false ⟨#[]⟩ fs n d e W)) (hC : ∀ W, Calls Tryz.prog 79 #[.agg #[.bool a.s, .string (dec a.n), .string (dec a.d), .bool false], .agg #[.bool b.s, .string (dec b.n), .string (dec b.d), .bool false]] W (RetFr f k0 W)) :
 Calls Tryz.prog 42 #[.string ⟨#[42]⟩, .agg #[.bool a.s, .string (dec a.n), .string (dec a.d), .bool false], .agg #[.bool b.s, .string (dec b.n), .string (dec b.d), .bool false], .int .i64 t] w (RetRV k false ⟨#[]⟩ fs n d e w) := by
 have HN := Lib.hid hN; clear hN
 have HC := Lib.hid hC; clear hC
 obtain ⟨wa, hwa⟩ : ∃ wa, wa = ((w.alloc (.cells #[.bool a.s, .string (dec a.n), .string (dec a.d), .bool false] 37)).alloc (.cells #[.bool b.s, .string (dec b.n), .string (dec b.d), .bool false] 37)).alloc (.cells #[.int .i64 0, .bool false, .string ⟨#[]⟩, .bool false, .string ⟨#[]⟩, .string ⟨#[]⟩, .bool false, .int .i64 0] 39) := ⟨_, rfl⟩
 obtain ⟨hbl, CX, CY, RES⟩ := kal3 hwa
 have HW := Lib.hid hbl; clear hbl
 replace CX := Lib.hid CX
 replace CY := Lib.hid CY
 replace RES := Lib.hid RES
 go_enter Tryz.func42, Tryz.ntmps42
 go_upto_region 1 with fail
 rw [← hwa]
 clear hwa
 obtain ⟨CX0, CX1, CX2, CX3⟩ := CX.out.cs4
 obtain ⟨CY0, CY1, CY2, CY3⟩ := CY.out.cs4
 go_wp2_with fail
 refine (HC.out _).mono ?_
 rintro e w1 ⟨rfl, hbl⟩
 replace CX := hmB CX hbl
 replace CY := hmB CY hbl
 replace RES := hmB RES hbl
 replace HW := hmW HW hbl; clear hbl
 clear CX0 CX1 CX2 CX3 CY0 CY1 CY2 CY3
 obtain ⟨CX0, CX1, CX2, CX3⟩ := CX.out.cs4
 obtain ⟨CY0, CY1, CY2, CY3⟩ := CY.out.cs4
 go_wp2_with fail
 refine (HN.out _).mono ?_
 rintro e w2 ⟨rfl, hbl⟩
 replace CX := hmB CX hbl
 replace CY := hmB CY hbl
 replace RES := hmB RES hbl
 replace HW := hmW HW hbl; clear hbl
 clear CX0 CX1 CX2 CX3 CY0 CY1 CY2 CY3
 obtain ⟨CX0, CX1, CX2, CX3⟩ := CX.out.cs4
 obtain ⟨CY0, CY1, CY2, CY3⟩ := CY.out.cs4
 obtain ⟨d0, d1, d2, d3, d4, d5, d6, d7⟩ := RES.out.cs8
 obtain ⟨f0, f1, f2, f3, f4, f5, f6, f7⟩ := RES.out.fz8
 go_wp2
 exact bodyPost_ret (results_cell_row rfl _ _ (w.heap.size + 2) 39 _ (0, 0) _ rfl (RES.out.put8 _ _ _ _ _ _ _ _) Tryz.underlying39 rfl (by kernel_rfl)) rfl ⟨rfl, (bel_set8 (g := w.heap.size + 2) HW.out (by omega) _ _ _ _ _ _ _ _)⟩
theorem rRk_quo {f : Q} {k0 fs : Bool} {k e : Int} {n d : ByteArray} (a b : Q) (t : Int) (w : World) (hN : ∀ W, Calls Tryz.prog 76 #[.agg #[.bool f.s, .string (dec f.n), .string (dec f.d), .bool k0]] W (RetRV k false ⟨#[]⟩ fs n d e W)) (hC : ∀ W, Calls Tryz.prog 80 #[.agg #[.bool a.s, .string (dec a.n), .string (dec a.d), .bool false], .agg #[.bool b.s, .string (dec b.n), .string (dec b.d), .bool false], .int .i64 t] W (RetFr f k0 W)) (h0 : b.n ≠ 0) :
 Calls Tryz.prog 42 #[.string ⟨#[47]⟩, .agg #[.bool a.s, .string (dec a.n), .string (dec a.d), .bool false], .agg #[.bool b.s, .string (dec b.n), .string (dec b.d), .bool false], .int .i64 t] w (RetRV k false ⟨#[]⟩ fs n d e w) := by
 have HN := Lib.hid hN; clear hN
 have HC := Lib.hid hC; clear hC
 obtain ⟨z1, z2⟩ := dec_nz h0
 clear h0
 obtain ⟨wa, hwa⟩ : ∃ wa, wa = ((w.alloc (.cells #[.bool a.s, .string (dec a.n), .string (dec a.d), .bool false] 37)).alloc (.cells #[.bool b.s, .string (dec b.n), .string (dec b.d), .bool false] 37)).alloc (.cells #[.int .i64 0, .bool false, .string ⟨#[]⟩, .bool false, .string ⟨#[]⟩, .string ⟨#[]⟩, .bool false, .int .i64 0] 39) := ⟨_, rfl⟩
 obtain ⟨hbl, CX, CY, RES⟩ := kal3 hwa
 have HW := Lib.hid hbl; clear hbl
 replace CX := Lib.hid CX
 replace CY := Lib.hid CY
 replace RES := Lib.hid RES
 go_enter Tryz.func42, Tryz.ntmps42
 go_upto_region 1 with fail
 rw [← hwa]
 clear hwa
 obtain ⟨CX0, CX1, CX2, CX3⟩ := CX.out.cs4
 obtain ⟨CY0, CY1, CY2, CY3⟩ := CY.out.cs4
 go_wp2_with fail
 refine (HC.out _).mono ?_
 rintro e w1 ⟨rfl, hbl⟩
 replace CX := hmB CX hbl
 replace CY := hmB CY hbl
 replace RES := hmB RES hbl
 replace HW := hmW HW hbl; clear hbl
 clear CX0 CX1 CX2 CX3 CY0 CY1 CY2 CY3
 obtain ⟨CX0, CX1, CX2, CX3⟩ := CX.out.cs4
 obtain ⟨CY0, CY1, CY2, CY3⟩ := CY.out.cs4
 go_wp2_with fail
 refine (HN.out _).mono ?_
 rintro e w2 ⟨rfl, hbl⟩
 replace CX := hmB CX hbl
 replace CY := hmB CY hbl
 replace RES := hmB RES hbl
 replace HW := hmW HW hbl; clear hbl
 clear CX0 CX1 CX2 CX3 CY0 CY1 CY2 CY3
 obtain ⟨CX0, CX1, CX2, CX3⟩ := CX.out.cs4
 obtain ⟨CY0, CY1, CY2, CY3⟩ := CY.out.cs4
 obtain ⟨d0, d1, d2, d3, d4, d5, d6, d7⟩ := RES.out.cs8
 obtain ⟨f0, f1, f2, f3, f4, f5, f6, f7⟩ := RES.out.fz8
 go_wp2
 exact bodyPost_ret (results_cell_row rfl _ _ (w.heap.size + 2) 39 _ (0, 0) _ rfl (RES.out.put8 _ _ _ _ _ _ _ _) Tryz.underlying39 rfl (by kernel_rfl)) rfl ⟨rfl, (bel_set8 (g := w.heap.size + 2) HW.out (by omega) _ _ _ _ _ _ _ _)⟩
theorem rRk_quoz (a b : Q) (t : Int) (w : World) (h0 : b.n = 0) :
 Calls Tryz.prog 42 #[.string ⟨#[47]⟩, .agg #[.bool a.s, .string (dec a.n), .string (dec a.d), .bool false], .agg #[.bool b.s, .string (dec b.n), .string (dec b.d), .bool false], .int .i64 t] w (RetRV 0 false ⟨#[]⟩ false ⟨#[]⟩ ⟨#[]⟩ 4 w) := by
 obtain ⟨z1, z2⟩ := dec_yz h0
 clear h0
 obtain ⟨wa, hwa⟩ : ∃ wa, wa = ((w.alloc (.cells #[.bool a.s, .string (dec a.n), .string (dec a.d), .bool false] 37)).alloc (.cells #[.bool b.s, .string (dec b.n), .string (dec b.d), .bool false] 37)).alloc (.cells #[.int .i64 0, .bool false, .string ⟨#[]⟩, .bool false, .string ⟨#[]⟩, .string ⟨#[]⟩, .bool false, .int .i64 0] 39) := ⟨_, rfl⟩
 obtain ⟨hbl, CX, CY, RES⟩ := kal3 hwa
 have HW := Lib.hid hbl; clear hbl
 replace CX := Lib.hid CX
 replace CY := Lib.hid CY
 replace RES := Lib.hid RES
 go_enter Tryz.func42, Tryz.ntmps42
 go_upto_region 1 with fail
 rw [← hwa]
 clear hwa
 obtain ⟨CX0, CX1, CX2, CX3⟩ := CX.out.cs4
 obtain ⟨CY0, CY1, CY2, CY3⟩ := CY.out.cs4
 obtain ⟨d0, d1, d2, d3, d4, d5, d6, d7⟩ := RES.out.cs8
 obtain ⟨f0, f1, f2, f3, f4, f5, f6, f7⟩ := RES.out.fz8
 go_wp2
 exact bodyPost_ret (results_cell_row rfl _ _ (w.heap.size + 2) 39 _ (0, 0) _ rfl (RES.out.put8 _ _ _ _ _ _ _ _) Tryz.underlying39 rfl (by kernel_rfl)) rfl ⟨rfl, (bel_set8 (g := w.heap.size + 2) HW.out (by omega) _ _ _ _ _ _ _ _)⟩
theorem rRk_leftz (a b : Q) (t : Int) (w : World) (h0 : b.n = 0) :
 Calls Tryz.prog 42 #[.string ⟨#[37]⟩, .agg #[.bool a.s, .string (dec a.n), .string (dec a.d), .bool false], .agg #[.bool b.s, .string (dec b.n), .string (dec b.d), .bool false], .int .i64 t] w (RetRV 0 false ⟨#[]⟩ false ⟨#[]⟩ ⟨#[]⟩ 4 w) := by
 obtain ⟨z1, z2⟩ := dec_yz h0
 clear h0
 obtain ⟨wa, hwa⟩ : ∃ wa, wa = ((w.alloc (.cells #[.bool a.s, .string (dec a.n), .string (dec a.d), .bool false] 37)).alloc (.cells #[.bool b.s, .string (dec b.n), .string (dec b.d), .bool false] 37)).alloc (.cells #[.int .i64 0, .bool false, .string ⟨#[]⟩, .bool false, .string ⟨#[]⟩, .string ⟨#[]⟩, .bool false, .int .i64 0] 39) := ⟨_, rfl⟩
 obtain ⟨hbl, CX, CY, RES⟩ := kal3 hwa
 have HW := Lib.hid hbl; clear hbl
 replace CX := Lib.hid CX
 replace CY := Lib.hid CY
 replace RES := Lib.hid RES
 go_enter Tryz.func42, Tryz.ntmps42
 go_upto_region 1 with fail
 rw [← hwa]
 clear hwa
 obtain ⟨CX0, CX1, CX2, CX3⟩ := CX.out.cs4
 obtain ⟨CY0, CY1, CY2, CY3⟩ := CY.out.cs4
 obtain ⟨d0, d1, d2, d3, d4, d5, d6, d7⟩ := RES.out.cs8
 obtain ⟨f0, f1, f2, f3, f4, f5, f6, f7⟩ := RES.out.fz8
 go_wp2
 exact bodyPost_ret (results_cell_row rfl _ _ (w.heap.size + 2) 39 _ (0, 0) _ rfl (RES.out.put8 _ _ _ _ _ _ _ _) Tryz.underlying39 rfl (by kernel_rfl)) rfl ⟨rfl, (bel_set8 (g := w.heap.size + 2) HW.out (by omega) _ _ _ _ _ _ _ _)⟩
theorem rRk_left {q p : Q} {f : Q} {k0 fs : Bool} {k e : Int} {n d : ByteArray} (a b : Q) (t : Int) (w : World) (hN : ∀ W, Calls Tryz.prog 76 #[.agg #[.bool f.s, .string (dec f.n), .string (dec f.d), .bool k0]] W (RetRV k false ⟨#[]⟩ fs n d e W)) (hQ : ∀ W, Calls Tryz.prog 80 #[.agg #[.bool a.s, .string (dec a.n), .string (dec a.d), .bool false], .agg #[.bool b.s, .string (dec b.n), .string (dec b.d), .bool false], .int .i64 t] W (RetFr q false W)) (hM : ∀ W, Calls Tryz.prog 79 #[.agg #[.bool q.s, .string (dec q.n), .string (dec q.d), .bool false], .agg #[.bool b.s, .string (dec b.n), .string (dec b.d), .bool false]] W (RetFr p false W)) (hC : ∀ W, Calls Tryz.prog 78 #[.agg #[.bool a.s, .string (dec a.n), .string (dec a.d), .bool false], .agg #[.bool p.s, .string (dec p.n), .string (dec p.d), .bool false]] W (RetFr f k0 W)) (h0 : b.n ≠ 0) :
 Calls Tryz.prog 42 #[.string ⟨#[37]⟩, .agg #[.bool a.s, .string (dec a.n), .string (dec a.d), .bool false], .agg #[.bool b.s, .string (dec b.n), .string (dec b.d), .bool false], .int .i64 t] w (RetRV k false ⟨#[]⟩ fs n d e w) := by
 have HN := Lib.hid hN; clear hN
 have HC := Lib.hid hC; clear hC
 obtain ⟨z1, z2⟩ := dec_nz h0
 clear h0
 have HQ := Lib.hid hQ; clear hQ
 have HM := Lib.hid hM; clear hM
 obtain ⟨wa, hwa⟩ : ∃ wa, wa = ((w.alloc (.cells #[.bool a.s, .string (dec a.n), .string (dec a.d), .bool false] 37)).alloc (.cells #[.bool b.s, .string (dec b.n), .string (dec b.d), .bool false] 37)).alloc (.cells #[.int .i64 0, .bool false, .string ⟨#[]⟩, .bool false, .string ⟨#[]⟩, .string ⟨#[]⟩, .bool false, .int .i64 0] 39) := ⟨_, rfl⟩
 obtain ⟨hbl, CX, CY, RES⟩ := kal3 hwa
 have HW := Lib.hid hbl; clear hbl
 replace CX := Lib.hid CX
 replace CY := Lib.hid CY
 replace RES := Lib.hid RES
 go_enter Tryz.func42, Tryz.ntmps42
 go_upto_region 1 with fail
 rw [← hwa]
 clear hwa
 obtain ⟨CX0, CX1, CX2, CX3⟩ := CX.out.cs4
 obtain ⟨CY0, CY1, CY2, CY3⟩ := CY.out.cs4
 go_wp2_with fail
 refine (HQ.out _).mono ?_
 rintro e w1 ⟨rfl, hbl⟩
 replace CX := hmB CX hbl
 replace CY := hmB CY hbl
 replace RES := hmB RES hbl
 replace HW := hmW HW hbl; clear hbl
 clear CX0 CX1 CX2 CX3 CY0 CY1 CY2 CY3
 obtain ⟨CX0, CX1, CX2, CX3⟩ := CX.out.cs4
 obtain ⟨CY0, CY1, CY2, CY3⟩ := CY.out.cs4
 go_upto_region 14 with fail
 obtain ⟨w4, hw4⟩ : ∃ w4, w4 = w1.alloc (.cells #[.bool q.s, .string (dec q.n), .string (dec q.d), .bool false] 37) := ⟨_, rfl⟩
 rw [← hw4]
 obtain ⟨hbl, CQ⟩ := sal1 hw4
 clear hw4
 replace CX := hmB CX hbl
 replace CY := hmB CY hbl
 replace RES := hmB RES hbl
 replace HW := hmW HW hbl; clear hbl
 clear CX0 CX1 CX2 CX3 CY0 CY1 CY2 CY3
 obtain ⟨CX0, CX1, CX2, CX3⟩ := CX.out.cs4
 obtain ⟨CY0, CY1, CY2, CY3⟩ := CY.out.cs4
 obtain ⟨CQ0, CQ1, CQ2, CQ3⟩ := CQ.out.cs4
 go_wp2_with fail
 refine (HM.out _).mono ?_
 rintro e w2 ⟨rfl, hbl⟩
 replace CX := hmB CX hbl
 replace CY := hmB CY hbl
 replace RES := hmB RES hbl
 replace CQ := hmB CQ hbl
 replace HW := hmW HW hbl; clear hbl
 clear CX0 CX1 CX2 CX3 CY0 CY1 CY2 CY3 CQ0 CQ1 CQ2 CQ3
 obtain ⟨CX0, CX1, CX2, CX3⟩ := CX.out.cs4
 obtain ⟨CY0, CY1, CY2, CY3⟩ := CY.out.cs4
 obtain ⟨CQ0, CQ1, CQ2, CQ3⟩ := CQ.out.cs4
 go_upto_region 15 with fail
 obtain ⟨w6, hw6⟩ : ∃ w6, w6 = w2.alloc (.cells #[.bool p.s, .string (dec p.n), .string (dec p.d), .bool false] 37) := ⟨_, rfl⟩
 rw [← hw6]
 obtain ⟨hbl, CP⟩ := sal1 hw6
 clear hw6
 replace CX := hmB CX hbl
 replace CY := hmB CY hbl
 replace RES := hmB RES hbl
 replace CQ := hmB CQ hbl
 replace HW := hmW HW hbl; clear hbl
 clear CX0 CX1 CX2 CX3 CY0 CY1 CY2 CY3 CQ0 CQ1 CQ2 CQ3
 obtain ⟨CX0, CX1, CX2, CX3⟩ := CX.out.cs4
 obtain ⟨CY0, CY1, CY2, CY3⟩ := CY.out.cs4
 obtain ⟨CQ0, CQ1, CQ2, CQ3⟩ := CQ.out.cs4
 obtain ⟨CP0, CP1, CP2, CP3⟩ := CP.out.cs4
 go_wp2_with fail
 refine (HC.out _).mono ?_
 rintro e w8 ⟨rfl, hbl⟩
 replace CX := hmB CX hbl
 replace CY := hmB CY hbl
 replace RES := hmB RES hbl
 replace CQ := hmB CQ hbl
 replace CP := hmB CP hbl
 replace HW := hmW HW hbl; clear hbl
 clear CX0 CX1 CX2 CX3 CY0 CY1 CY2 CY3 CQ0 CQ1 CQ2 CQ3 CP0 CP1 CP2 CP3
 obtain ⟨CX0, CX1, CX2, CX3⟩ := CX.out.cs4
 obtain ⟨CY0, CY1, CY2, CY3⟩ := CY.out.cs4
 obtain ⟨CQ0, CQ1, CQ2, CQ3⟩ := CQ.out.cs4
 obtain ⟨CP0, CP1, CP2, CP3⟩ := CP.out.cs4
 go_wp2_with fail
 refine (HN.out _).mono ?_
 rintro e w9 ⟨rfl, hbl⟩
 replace CX := hmB CX hbl
 replace CY := hmB CY hbl
 replace RES := hmB RES hbl
 replace CQ := hmB CQ hbl
 replace CP := hmB CP hbl
 replace HW := hmW HW hbl; clear hbl
 clear CX0 CX1 CX2 CX3 CY0 CY1 CY2 CY3 CQ0 CQ1 CQ2 CQ3 CP0 CP1 CP2 CP3
 obtain ⟨CX0, CX1, CX2, CX3⟩ := CX.out.cs4
 obtain ⟨CY0, CY1, CY2, CY3⟩ := CY.out.cs4
 obtain ⟨CQ0, CQ1, CQ2, CQ3⟩ := CQ.out.cs4
 obtain ⟨CP0, CP1, CP2, CP3⟩ := CP.out.cs4
 obtain ⟨d0, d1, d2, d3, d4, d5, d6, d7⟩ := RES.out.cs8
 obtain ⟨f0, f1, f2, f3, f4, f5, f6, f7⟩ := RES.out.fz8
 go_wp2
 exact bodyPost_ret (results_cell_row rfl _ _ (w.heap.size + 2) 39 _ (0, 0) _ rfl (RES.out.put8 _ _ _ _ _ _ _ _) Tryz.underlying39 rfl (by kernel_rfl)) rfl ⟨rfl, (bel_set8 (g := w.heap.size + 2) HW.out (by omega) _ _ _ _ _ _ _ _)⟩
theorem rRk_nega (m : Nat) (a b : Q) (t : Int) (w : World) (hk : m < 3) :
 Calls Tryz.prog 42 #[.string (opB m), .agg #[.bool true, .string (dec a.n), .string (dec a.d), .bool false], .agg #[.bool b.s, .string (dec b.n), .string (dec b.d), .bool false], .int .i64 t] w (RetRV 0 false ⟨#[]⟩ false ⟨#[]⟩ ⟨#[]⟩ 2 w) := by
 obtain ⟨op, hop⟩ : ∃ op, opB m = op := ⟨_, rfl⟩
 rw [hop]
 obtain ⟨o1, o2, o3, o4, o5, o6, o7, o8, o9, o10⟩ := opB_tests hk hop
 clear hop hk
 obtain ⟨wa, hwa⟩ : ∃ wa, wa = ((w.alloc (.cells #[.bool true, .string (dec a.n), .string (dec a.d), .bool false] 37)).alloc (.cells #[.bool b.s, .string (dec b.n), .string (dec b.d), .bool false] 37)).alloc (.cells #[.int .i64 0, .bool false, .string ⟨#[]⟩, .bool false, .string ⟨#[]⟩, .string ⟨#[]⟩, .bool false, .int .i64 0] 39) := ⟨_, rfl⟩
 obtain ⟨hbl, CX, CY, RES⟩ := kal3 hwa
 have HW := Lib.hid hbl; clear hbl
 replace CX := Lib.hid CX
 replace CY := Lib.hid CY
 replace RES := Lib.hid RES
 go_enter Tryz.func42, Tryz.ntmps42
 go_upto_region 1 with fail
 rw [← hwa]
 clear hwa
 obtain ⟨CX0, CX1, CX2, CX3⟩ := CX.out.cs4
 obtain ⟨CY0, CY1, CY2, CY3⟩ := CY.out.cs4
 obtain ⟨d0, d1, d2, d3, d4, d5, d6, d7⟩ := RES.out.cs8
 obtain ⟨f0, f1, f2, f3, f4, f5, f6, f7⟩ := RES.out.fz8
 go_wp2
 exact bodyPost_ret (results_cell_row rfl _ _ (w.heap.size + 2) 39 _ (0, 0) _ rfl (RES.out.put8 _ _ _ _ _ _ _ _) Tryz.underlying39 rfl (by kernel_rfl)) rfl ⟨rfl, (bel_set8 (g := w.heap.size + 2) HW.out (by omega) _ _ _ _ _ _ _ _)⟩
theorem rRk_negb (m : Nat) (a b : Q) (t : Int) (w : World) (hk : m < 3) :
 Calls Tryz.prog 42 #[.string (opB m), .agg #[.bool false, .string (dec a.n), .string (dec a.d), .bool false], .agg #[.bool true, .string (dec b.n), .string (dec b.d), .bool false], .int .i64 t] w (RetRV 0 false ⟨#[]⟩ false ⟨#[]⟩ ⟨#[]⟩ 2 w) := by
 obtain ⟨op, hop⟩ : ∃ op, opB m = op := ⟨_, rfl⟩
 rw [hop]
 obtain ⟨o1, o2, o3, o4, o5, o6, o7, o8, o9, o10⟩ := opB_tests hk hop
 clear hop hk
 obtain ⟨wa, hwa⟩ : ∃ wa, wa = ((w.alloc (.cells #[.bool false, .string (dec a.n), .string (dec a.d), .bool false] 37)).alloc (.cells #[.bool true, .string (dec b.n), .string (dec b.d), .bool false] 37)).alloc (.cells #[.int .i64 0, .bool false, .string ⟨#[]⟩, .bool false, .string ⟨#[]⟩, .string ⟨#[]⟩, .bool false, .int .i64 0] 39) := ⟨_, rfl⟩
 obtain ⟨hbl, CX, CY, RES⟩ := kal3 hwa
 have HW := Lib.hid hbl; clear hbl
 replace CX := Lib.hid CX
 replace CY := Lib.hid CY
 replace RES := Lib.hid RES
 go_enter Tryz.func42, Tryz.ntmps42
 go_upto_region 1 with fail
 rw [← hwa]
 clear hwa
 obtain ⟨CX0, CX1, CX2, CX3⟩ := CX.out.cs4
 obtain ⟨CY0, CY1, CY2, CY3⟩ := CY.out.cs4
 obtain ⟨d0, d1, d2, d3, d4, d5, d6, d7⟩ := RES.out.cs8
 obtain ⟨f0, f1, f2, f3, f4, f5, f6, f7⟩ := RES.out.fz8
 go_wp2
 exact bodyPost_ret (results_cell_row rfl _ _ (w.heap.size + 2) 39 _ (0, 0) _ rfl (RES.out.put8 _ _ _ _ _ _ _ _) Tryz.underlying39 rfl (by kernel_rfl)) rfl ⟨rfl, (bel_set8 (g := w.heap.size + 2) HW.out (by omega) _ _ _ _ _ _ _ _)⟩
theorem rRk_bit (m : Nat) (a b : Q) (t : Int) (w : World) (hk : m < 3) (ha : a.n < Top) (hb : b.n < Top) :
 Calls Tryz.prog 42 #[.string (opB m), .agg #[.bool false, .string (dec a.n), .string (dec a.d), .bool false], .agg #[.bool false, .string (dec b.n), .string (dec b.d), .bool false], .int .i64 t] w (RetRV 3 false ⟨#[]⟩ false (dec (bop m a.n b.n)) ⟨#[49]⟩ 0 w) := by
 have HK := Lib.hid (And.intro hk (And.intro ha hb)); clear ha hb
 obtain ⟨op, hop⟩ : ∃ op, opB m = op := ⟨_, rfl⟩
 rw [hop]
 obtain ⟨o1, o2, o3, o4, o5, o6, o7, o8, o9, o10⟩ := opB_tests hk hop
 have HOP := Lib.hid hop; clear hop hk
 obtain ⟨wa, hwa⟩ : ∃ wa, wa = ((w.alloc (.cells #[.bool false, .string (dec a.n), .string (dec a.d), .bool false] 37)).alloc (.cells #[.bool false, .string (dec b.n), .string (dec b.d), .bool false] 37)).alloc (.cells #[.int .i64 0, .bool false, .string ⟨#[]⟩, .bool false, .string ⟨#[]⟩, .string ⟨#[]⟩, .bool false, .int .i64 0] 39) := ⟨_, rfl⟩
 obtain ⟨hbl, CX, CY, RES⟩ := kal3 hwa
 have HW := Lib.hid hbl; clear hbl
 replace CX := Lib.hid CX
 replace CY := Lib.hid CY
 replace RES := Lib.hid RES
 go_enter Tryz.func42, Tryz.ntmps42
 go_upto_region 1 with fail
 rw [← hwa]
 clear hwa
 obtain ⟨CX0, CX1, CX2, CX3⟩ := CX.out.cs4
 obtain ⟨CY0, CY1, CY2, CY3⟩ := CY.out.cs4
 have hbw := fun W => rBitw_is m a.n b.n W HK.out.1 HK.out.2.1 HK.out.2.2
 rw [HOP.out] at hbw
 have HBW := Lib.hid hbw; clear hbw
 go_wp2_with fail
 refine (HBW.out _).mono ?_
 rintro e w1 ⟨rfl, hbl⟩
 replace CX := hmB CX hbl
 replace CY := hmB CY hbl
 replace RES := hmB RES hbl
 replace HW := hmW HW hbl; clear hbl
 clear CX0 CX1 CX2 CX3 CY0 CY1 CY2 CY3
 obtain ⟨CX0, CX1, CX2, CX3⟩ := CX.out.cs4
 obtain ⟨CY0, CY1, CY2, CY3⟩ := CY.out.cs4
 obtain ⟨d0, d1, d2, d3, d4, d5, d6, d7⟩ := RES.out.cs8
 obtain ⟨f0, f1, f2, f3, f4, f5, f6, f7⟩ := RES.out.fz8
 go_wp2
 exact bodyPost_ret (results_cell_row rfl _ _ (w.heap.size + 2) 39 _ (0, 0) _ rfl (RES.out.put8 _ _ _ _ _ _ _ _) Tryz.underlying39 rfl (by kernel_rfl)) rfl ⟨rfl, (bel_set8 (g := w.heap.size + 2) HW.out (by omega) _ _ _ _ _ _ _ _)⟩
end
end Go.Proofs.YtmbbdjpnecjleaaGreat
