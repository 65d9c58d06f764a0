/-
 Parts: K23.
-/
import Derived.Test.YtmbbdjpnecjleaaGreatH23
namespace Go.Proofs.YtmbbdjpnecjleaaGreat
section
set_option maxRecDepth 100000
set_option maxHeartbeats 1000000
open Go.RowKit

theorem run_look0 {W : World} {b : Nat} {L : List (Value × Value)} {op : ByteArray} (h : MapIs W b L) (hl : lookL .string (.string op) L = some none) :
 (Instr.lookup 56 (.map (some b)) (.string op) true).run Tryz.prog W = .ok (.tuple #[.agg #[.bool false, .nilFunc], .bool false]) W := by
 obtain ⟨es, clock, hb, rfl⟩ := h
 obtain ⟨s, hs, hr⟩ := find_look .string (.string op) es.toList 0 _ hl
 cases s with
 | some y => cases hr
 | none =>
  unfold Instr.lookup
  simp only [Sem.run_bind, run_underlying Tryz.underlying56, Result.andThen_ok, Go.MapKept.run_getObj_map hb, Sem.run_pure, Go.MapKept.run_checkKey Tryz.underlying9 (is_keyS op), Go.MapKept.run_findKey Tryz.underlying9 hs, zero_opr]
  rfl
theorem kBin_bada (op : ByteArray) (ka kb : Int) (ba bb ga gb : Bool) (sa sb : ByteArray) (A B A' B' : Option Addr) (c d c' d' : Nat) (xs ys xs' ys' : List Nat) (t : Int) (w : World) (h1 : RdL w A xs) (h2 : RdL w B ys) (h3 : RdL w A' xs') (h4 : RdL w B' ys') (m1 : Lim xs) (m2 : Lim ys) (m3 : Lim xs') (m4 : Lim ys') (l1 : xs.length ≤ 18) (l2 : ys.length ≤ 18) (l3 : xs'.length ≤ 18) (l4 : ys'.length ≤ 18) (k1 : xs.length ≤ c) (k2 : ys.length ≤ d) (k3 : xs'.length ≤ c') (k4 : ys'.length ≤ d') (hr1 : rightV ka ba sa ga xs ys = false) :
 Calls Tryz.prog 6 #[.string op, .agg #[.int .i64 ka, .bool ba, .string sa, .bool ga, .slice A xs.length c, .slice B ys.length d], .agg #[.int .i64 kb, .bool bb, .string sb, .bool gb, .slice A' xs'.length c', .slice B' ys'.length d'], .int .i64 t] w (RetV 0 false ⟨#[]⟩ noQ 1 w) := by
 have R1 := Lib.hid h1; clear h1
 have R2 := Lib.hid h2; clear h2
 have R3 := Lib.hid h3; clear h3
 have R4 := Lib.hid h4; clear h4
 have M4 := Lib.hid (And.intro m1 (And.intro m2 (And.intro m3 m4))); clear m1 m2 m3 m4
 have L4 := Lib.hid (And.intro l1 (And.intro l2 (And.intro l3 l4))); clear l1 l2 l3 l4
 have K4 := Lib.hid (And.intro k1 (And.intro k2 (And.intro k3 k4))); clear k1 k2 k3 k4
 have HR1 := Lib.hid hr1; clear hr1
 obtain ⟨wa, hwa⟩ : ∃ wa, wa = ((w.alloc (.cells #[.int .i64 ka, .bool ba, .string sa, .bool ga, .slice A xs.length c, .slice B ys.length d] 27)).alloc (.cells #[.int .i64 kb, .bool bb, .string sb, .bool gb, .slice A' xs'.length c', .slice B' ys'.length d'] 27)).alloc (.cells #[.int .i64 0, .bool false, .string ⟨#[]⟩, .bool false, .slice none 0 0, .slice none 0 0] 27) := ⟨_, rfl⟩
 obtain ⟨hbl, CX, CY, RES⟩ := kal3 hwa
 replace R1 := hmR R1 hbl
 replace R2 := hmR R2 hbl
 replace R3 := hmR R3 hbl
 replace R4 := hmR R4 hbl
 have HW := Lib.hid hbl; clear hbl
 replace CX := Lib.hid CX
 replace CY := Lib.hid CY
 replace RES := Lib.hid RES
 go_enter Tryz.func6, Tryz.ntmps6
 go_wp2_with fail
 rw [← hwa]
 clear hwa
 obtain ⟨CX0, CX1, CX2, CX3, CX4, CX5⟩ := CX.out.cs6
 obtain ⟨CY0, CY1, CY2, CY3, CY4, CY5⟩ := CY.out.cs6
 refine (kRight_any ka ba sa ga A B c d xs ys _ R1.out R2.out M4.out.1 M4.out.2.1 L4.out.1 L4.out.2.1 K4.out.1 K4.out.2.1).mono ?_
 rintro e w1 ⟨rfl, hbl⟩
 replace R1 := hmR R1 hbl
 replace R2 := hmR R2 hbl
 replace R3 := hmR R3 hbl
 replace R4 := hmR R4 hbl
 replace CX := hmB CX hbl
 replace CY := hmB CY hbl
 replace RES := hmB RES hbl
 replace HW := hmW HW hbl; clear hbl
 clear CX0 CX1 CX2 CX3 CX4 CX5 CY0 CY1 CY2 CY3 CY4 CY5
 obtain ⟨CX0, CX1, CX2, CX3, CX4, CX5⟩ := CX.out.cs6
 obtain ⟨CY0, CY1, CY2, CY3, CY4, CY5⟩ := CY.out.cs6
 rw [HR1.out]
 obtain ⟨d0, d1, d2, d3, d4, d5⟩ := RES.out.cs6
 obtain ⟨f0, f1, f2, f3, f4, f5⟩ := RES.out.fz6
 go_wp2
 exact bodyPost_ret (results_row_tmp rfl _ _ (w.heap.size + 2) 27 _ (0, 0) _ _ rfl rfl (RES.out.put6 _ _ _ _ _ _) Tryz.underlying27 rfl (by kernel_rfl)) rfl ⟨_, _, rfl, (RdN.set6 RES.out rfl (RdN.none0 _) _ _ _ _ _ _), (RdN.set6 RES.out rfl (RdN.none0 _) _ _ _ _ _ _), (bel_set6 (g := w.heap.size + 2) HW.out (by omega) _ _ _ _ _ _)⟩
theorem kBin_badb (op : ByteArray) (ka kb : Int) (ba bb ga gb : Bool) (sa sb : ByteArray) (A B A' B' : Option Addr) (c d c' d' : Nat) (xs ys xs' ys' : List Nat) (t : Int) (w : World) (h1 : RdL w A xs) (h2 : RdL w B ys) (h3 : RdL w A' xs') (h4 : RdL w B' ys') (m1 : Lim xs) (m2 : Lim ys) (m3 : Lim xs') (m4 : Lim ys') (l1 : xs.length ≤ 18) (l2 : ys.length ≤ 18) (l3 : xs'.length ≤ 18) (l4 : ys'.length ≤ 18) (k1 : xs.length ≤ c) (k2 : ys.length ≤ d) (k3 : xs'.length ≤ c') (k4 : ys'.length ≤ d') (hr1 : rightV ka ba sa ga xs ys = true) (hr2 : rightV kb bb sb gb xs' ys' = false) :
 Calls Tryz.prog 6 #[.string op, .agg #[.int .i64 ka, .bool ba, .string sa, .bool ga, .slice A xs.length c, .slice B ys.length d], .agg #[.int .i64 kb, .bool bb, .string sb, .bool gb, .slice A' xs'.length c', .slice B' ys'.length d'], .int .i64 t] w (RetV 0 false ⟨#[]⟩ noQ 1 w) := by
 have R1 := Lib.hid h1; clear h1
 have R2 := Lib.hid h2; clear h2
 have R3 := Lib.hid h3; clear h3
 have R4 := Lib.hid h4; clear h4
 have M4 := Lib.hid (And.intro m1 (And.intro m2 (And.intro m3 m4))); clear m1 m2 m3 m4
 have L4 := Lib.hid (And.intro l1 (And.intro l2 (And.intro l3 l4))); clear l1 l2 l3 l4
 have K4 := Lib.hid (And.intro k1 (And.intro k2 (And.intro k3 k4))); clear k1 k2 k3 k4
 have HR1 := Lib.hid hr1; clear hr1
 have HR2 := Lib.hid hr2; clear hr2
 obtain ⟨wa, hwa⟩ : ∃ wa, wa = ((w.alloc (.cells #[.int .i64 ka, .bool ba, .string sa, .bool ga, .slice A xs.length c, .slice B ys.length d] 27)).alloc (.cells #[.int .i64 kb, .bool bb, .string sb, .bool gb, .slice A' xs'.length c', .slice B' ys'.length d'] 27)).alloc (.cells #[.int .i64 0, .bool false, .string ⟨#[]⟩, .bool false, .slice none 0 0, .slice none 0 0] 27) := ⟨_, rfl⟩
 obtain ⟨hbl, CX, CY, RES⟩ := kal3 hwa
 replace R1 := hmR R1 hbl
 replace R2 := hmR R2 hbl
 replace R3 := hmR R3 hbl
 replace R4 := hmR R4 hbl
 have HW := Lib.hid hbl; clear hbl
 replace CX := Lib.hid CX
 replace CY := Lib.hid CY
 replace RES := Lib.hid RES
 go_enter Tryz.func6, Tryz.ntmps6
 go_wp2_with fail
 rw [← hwa]
 clear hwa
 obtain ⟨CX0, CX1, CX2, CX3, CX4, CX5⟩ := CX.out.cs6
 obtain ⟨CY0, CY1, CY2, CY3, CY4, CY5⟩ := CY.out.cs6
 refine (kRight_any ka ba sa ga A B c d xs ys _ R1.out R2.out M4.out.1 M4.out.2.1 L4.out.1 L4.out.2.1 K4.out.1 K4.out.2.1).mono ?_
 rintro e w1 ⟨rfl, hbl⟩
 replace R1 := hmR R1 hbl
 replace R2 := hmR R2 hbl
 replace R3 := hmR R3 hbl
 replace R4 := hmR R4 hbl
 replace CX := hmB CX hbl
 replace CY := hmB CY hbl
 replace RES := hmB RES hbl
 replace HW := hmW HW hbl; clear hbl
 clear CX0 CX1 CX2 CX3 CX4 CX5 CY0 CY1 CY2 CY3 CY4 CY5
 obtain ⟨CX0, CX1, CX2, CX3, CX4, CX5⟩ := CX.out.cs6
 obtain ⟨CY0, CY1, CY2, CY3, CY4, CY5⟩ := CY.out.cs6
 rw [HR1.out]
 go_wp2_with fail
 refine (kRight_any kb bb sb gb A' B' c' d' xs' ys' _ R3.out R4.out M4.out.2.2.1 M4.out.2.2.2 L4.out.2.2.1 L4.out.2.2.2 K4.out.2.2.1 K4.out.2.2.2).mono ?_
 rintro e w2 ⟨rfl, hbl⟩
 replace R1 := hmR R1 hbl
 replace R2 := hmR R2 hbl
 replace R3 := hmR R3 hbl
 replace R4 := hmR R4 hbl
 replace CX := hmB CX hbl
 replace CY := hmB CY hbl
 replace RES := hmB RES hbl
 replace HW := hmW HW hbl; clear hbl
 clear CX0 CX1 CX2 CX3 CX4 CX5 CY0 CY1 CY2 CY3 CY4 CY5
 obtain ⟨CX0, CX1, CX2, CX3, CX4, CX5⟩ := CX.out.cs6
 obtain ⟨CY0, CY1, CY2, CY3, CY4, CY5⟩ := CY.out.cs6
 rw [HR2.out]
 obtain ⟨d0, d1, d2, d3, d4, d5⟩ := RES.out.cs6
 obtain ⟨f0, f1, f2, f3, f4, f5⟩ := RES.out.fz6
 go_wp2
 exact bodyPost_ret (results_row_tmp rfl _ _ (w.heap.size + 2) 27 _ (0, 0) _ _ rfl rfl (RES.out.put6 _ _ _ _ _ _) Tryz.underlying27 rfl (by kernel_rfl)) rfl ⟨_, _, rfl, (RdN.set6 RES.out rfl (RdN.none0 _) _ _ _ _ _ _), (RdN.set6 RES.out rfl (RdN.none0 _) _ _ _ _ _ _), (bel_set6 (g := w.heap.size + 2) HW.out (by omega) _ _ _ _ _ _)⟩
theorem kBin_badt (op : ByteArray) (ka kb : Int) (ba bb ga gb : Bool) (sa sb : ByteArray) (A B A' B' : Option Addr) (c d c' d' : Nat) (xs ys xs' ys' : List Nat) (t : Int) (w : World) (h1 : RdL w A xs) (h2 : RdL w B ys) (h3 : RdL w A' xs') (h4 : RdL w B' ys') (m1 : Lim xs) (m2 : Lim ys) (m3 : Lim xs') (m4 : Lim ys') (l1 : xs.length ≤ 18) (l2 : ys.length ≤ 18) (l3 : xs'.length ≤ 18) (l4 : ys'.length ≤ 18) (k1 : xs.length ≤ c) (k2 : ys.length ≤ d) (k3 : xs'.length ≤ c') (k4 : ys'.length ≤ d') (hr1 : rightV ka ba sa ga xs ys = true) (hr2 : rightV kb bb sb gb xs' ys' = true) (hb : basB t = false) :
 Calls Tryz.prog 6 #[.string op, .agg #[.int .i64 ka, .bool ba, .string sa, .bool ga, .slice A xs.length c, .slice B ys.length d], .agg #[.int .i64 kb, .bool bb, .string sb, .bool gb, .slice A' xs'.length c', .slice B' ys'.length d'], .int .i64 t] w (RetV 0 false ⟨#[]⟩ noQ 1 w) := by
 have R1 := Lib.hid h1; clear h1
 have R2 := Lib.hid h2; clear h2
 have R3 := Lib.hid h3; clear h3
 have R4 := Lib.hid h4; clear h4
 have M4 := Lib.hid (And.intro m1 (And.intro m2 (And.intro m3 m4))); clear m1 m2 m3 m4
 have L4 := Lib.hid (And.intro l1 (And.intro l2 (And.intro l3 l4))); clear l1 l2 l3 l4
 have K4 := Lib.hid (And.intro k1 (And.intro k2 (And.intro k3 k4))); clear k1 k2 k3 k4
 have HR1 := Lib.hid hr1; clear hr1
 have HR2 := Lib.hid hr2; clear hr2
 have KB := Lib.hid (fun W => kBas_is t W hb); clear hb
 obtain ⟨wa, hwa⟩ : ∃ wa, wa = ((w.alloc (.cells #[.int .i64 ka, .bool ba, .string sa, .bool ga, .slice A xs.length c, .slice B ys.length d] 27)).alloc (.cells #[.int .i64 kb, .bool bb, .string sb, .bool gb, .slice A' xs'.length c', .slice B' ys'.length d'] 27)).alloc (.cells #[.int .i64 0, .bool false, .string ⟨#[]⟩, .bool false, .slice none 0 0, .slice none 0 0] 27) := ⟨_, rfl⟩
 obtain ⟨hbl, CX, CY, RES⟩ := kal3 hwa
 replace R1 := hmR R1 hbl
 replace R2 := hmR R2 hbl
 replace R3 := hmR R3 hbl
 replace R4 := hmR R4 hbl
 have HW := Lib.hid hbl; clear hbl
 replace CX := Lib.hid CX
 replace CY := Lib.hid CY
 replace RES := Lib.hid RES
 go_enter Tryz.func6, Tryz.ntmps6
 go_wp2_with fail
 rw [← hwa]
 clear hwa
 obtain ⟨CX0, CX1, CX2, CX3, CX4, CX5⟩ := CX.out.cs6
 obtain ⟨CY0, CY1, CY2, CY3, CY4, CY5⟩ := CY.out.cs6
 refine (kRight_any ka ba sa ga A B c d xs ys _ R1.out R2.out M4.out.1 M4.out.2.1 L4.out.1 L4.out.2.1 K4.out.1 K4.out.2.1).mono ?_
 rintro e w1 ⟨rfl, hbl⟩
 replace R1 := hmR R1 hbl
 replace R2 := hmR R2 hbl
 replace R3 := hmR R3 hbl
 replace R4 := hmR R4 hbl
 replace CX := hmB CX hbl
 replace CY := hmB CY hbl
 replace RES := hmB RES hbl
 replace HW := hmW HW hbl; clear hbl
 clear CX0 CX1 CX2 CX3 CX4 CX5 CY0 CY1 CY2 CY3 CY4 CY5
 obtain ⟨CX0, CX1, CX2, CX3, CX4, CX5⟩ := CX.out.cs6
 obtain ⟨CY0, CY1, CY2, CY3, CY4, CY5⟩ := CY.out.cs6
 rw [HR1.out]
 go_wp2_with fail
 refine (kRight_any kb bb sb gb A' B' c' d' xs' ys' _ R3.out R4.out M4.out.2.2.1 M4.out.2.2.2 L4.out.2.2.1 L4.out.2.2.2 K4.out.2.2.1 K4.out.2.2.2).mono ?_
 rintro e w2 ⟨rfl, hbl⟩
 replace R1 := hmR R1 hbl
 replace R2 := hmR R2 hbl
 replace R3 := hmR R3 hbl
 replace R4 := hmR R4 hbl
 replace CX := hmB CX hbl
 replace CY := hmB CY hbl
 replace RES := hmB RES hbl
 replace HW := hmW HW hbl; clear hbl
 clear CX0 CX1 CX2 CX3 CX4 CX5 CY0 CY1 CY2 CY3 CY4 CY5
 obtain ⟨CX0, CX1, CX2, CX3, CX4, CX5⟩ := CX.out.cs6
 obtain ⟨CY0, CY1, CY2, CY3, CY4, CY5⟩ := CY.out.cs6
 rw [HR2.out]
 go_wp2_with fail
 refine (KB.out _).mono ?_
 rintro e wv ⟨rfl, hwv⟩
 obtain rfl := hwv.symm
 clear hwv
 obtain ⟨d0, d1, d2, d3, d4, d5⟩ := RES.out.cs6
 obtain ⟨f0, f1, f2, f3, f4, f5⟩ := RES.out.fz6
 go_wp2
 exact bodyPost_ret (results_row_tmp rfl _ _ (w.heap.size + 2) 27 _ (0, 0) _ _ rfl rfl (RES.out.put6 _ _ _ _ _ _) Tryz.underlying27 rfl (by kernel_rfl)) rfl ⟨_, _, rfl, (RdN.set6 RES.out rfl (RdN.none0 _) _ _ _ _ _ _), (RdN.set6 RES.out rfl (RdN.none0 _) _ _ _ _ _ _), (bel_set6 (g := w.heap.size + 2) HW.out (by omega) _ _ _ _ _ _)⟩
theorem kLogic_and (ba bb ga gb : Bool) (sa sb : ByteArray) (A B A' B' : Option Addr) (c d c' d' : Nat) (xs ys xs' ys' : List Nat) (t : Int) (w : World) (h1 : RdL w A xs) (h2 : RdL w B ys) (h3 : RdL w A' xs') (h4 : RdL w B' ys') (m1 : Lim xs) (m2 : Lim ys) (m3 : Lim xs') (m4 : Lim ys') (l1 : xs.length ≤ 18) (l2 : ys.length ≤ 18) (l3 : xs'.length ≤ 18) (l4 : ys'.length ≤ 18) (k1 : xs.length ≤ c) (k2 : ys.length ≤ d) (k3 : xs'.length ≤ c') (k4 : ys'.length ≤ d') (ht : truthB t = true) :
 Calls Tryz.prog 23 #[.string ⟨#[38, 38]⟩, .agg #[.int .i64 1, .bool ba, .string sa, .bool ga, .slice A xs.length c, .slice B ys.length d], .agg #[.int .i64 1, .bool bb, .string sb, .bool gb, .slice A' xs'.length c', .slice B' ys'.length d'], .int .i64 t] w (RetV 1 (ba && bb) ⟨#[]⟩ noQ 0 w) := by
 have R1 := Lib.hid h1; clear h1
 have R2 := Lib.hid h2; clear h2
 have R3 := Lib.hid h3; clear h3
 have R4 := Lib.hid h4; clear h4
 have M4 := Lib.hid (And.intro m1 (And.intro m2 (And.intro m3 m4))); clear m1 m2 m3 m4
 have L4 := Lib.hid (And.intro l1 (And.intro l2 (And.intro l3 l4))); clear l1 l2 l3 l4
 have K4 := Lib.hid (And.intro k1 (And.intro k2 (And.intro k3 k4))); clear k1 k2 k3 k4
 have KT := Lib.hid (fun W => kTruth_is t W ht); clear ht
 obtain ⟨wa, hwa⟩ : ∃ wa, wa = ((w.alloc (.cells #[.int .i64 1, .bool ba, .string sa, .bool ga, .slice A xs.length c, .slice B ys.length d] 27)).alloc (.cells #[.int .i64 1, .bool bb, .string sb, .bool gb, .slice A' xs'.length c', .slice B' ys'.length d'] 27)).alloc (.cells #[.int .i64 0, .bool false, .string ⟨#[]⟩, .bool false, .slice none 0 0, .slice none 0 0] 27) := ⟨_, rfl⟩
 obtain ⟨hbl, CX, CY, RES⟩ := kal3 hwa
 replace R1 := hmR R1 hbl
 replace R2 := hmR R2 hbl
 replace R3 := hmR R3 hbl
 replace R4 := hmR R4 hbl
 have HW := Lib.hid hbl; clear hbl
 replace CX := Lib.hid CX
 replace CY := Lib.hid CY
 replace RES := Lib.hid RES
 go_enter Tryz.func23, Tryz.ntmps23
 go_upto_region 1 with fail
 rw [← hwa]
 clear hwa
 obtain ⟨CX0, CX1, CX2, CX3, CX4, CX5⟩ := CX.out.cs6
 obtain ⟨CY0, CY1, CY2, CY3, CY4, CY5⟩ := CY.out.cs6
 go_wp2_with fail
 refine (KT.out _).mono ?_
 rintro e wv ⟨rfl, hwv⟩
 obtain rfl := hwv.symm
 clear hwv
 cases ba
 · cases bb
   · obtain ⟨d0, d1, d2, d3, d4, d5⟩ := RES.out.cs6
     obtain ⟨f0, f1, f2, f3, f4, f5⟩ := RES.out.fz6
     go_wp2
     exact bodyPost_ret (results_row_tmp rfl _ _ (w.heap.size + 2) 27 _ (0, 0) _ _ rfl rfl (RES.out.put6 _ _ _ _ _ _) Tryz.underlying27 rfl (by kernel_rfl)) rfl ⟨_, _, rfl, (RdN.set6 RES.out rfl (RdN.none0 _) _ _ _ _ _ _), (RdN.set6 RES.out rfl (RdN.none0 _) _ _ _ _ _ _), (bel_set6 (g := w.heap.size + 2) HW.out (by omega) _ _ _ _ _ _)⟩
   · obtain ⟨d0, d1, d2, d3, d4, d5⟩ := RES.out.cs6
     obtain ⟨f0, f1, f2, f3, f4, f5⟩ := RES.out.fz6
     go_wp2
     exact bodyPost_ret (results_row_tmp rfl _ _ (w.heap.size + 2) 27 _ (0, 0) _ _ rfl rfl (RES.out.put6 _ _ _ _ _ _) Tryz.underlying27 rfl (by kernel_rfl)) rfl ⟨_, _, rfl, (RdN.set6 RES.out rfl (RdN.none0 _) _ _ _ _ _ _), (RdN.set6 RES.out rfl (RdN.none0 _) _ _ _ _ _ _), (bel_set6 (g := w.heap.size + 2) HW.out (by omega) _ _ _ _ _ _)⟩
 · cases bb
   · obtain ⟨d0, d1, d2, d3, d4, d5⟩ := RES.out.cs6
     obtain ⟨f0, f1, f2, f3, f4, f5⟩ := RES.out.fz6
     go_wp2
     exact bodyPost_ret (results_row_tmp rfl _ _ (w.heap.size + 2) 27 _ (0, 0) _ _ rfl rfl (RES.out.put6 _ _ _ _ _ _) Tryz.underlying27 rfl (by kernel_rfl)) rfl ⟨_, _, rfl, (RdN.set6 RES.out rfl (RdN.none0 _) _ _ _ _ _ _), (RdN.set6 RES.out rfl (RdN.none0 _) _ _ _ _ _ _), (bel_set6 (g := w.heap.size + 2) HW.out (by omega) _ _ _ _ _ _)⟩
   · obtain ⟨d0, d1, d2, d3, d4, d5⟩ := RES.out.cs6
     obtain ⟨f0, f1, f2, f3, f4, f5⟩ := RES.out.fz6
     go_wp2
     exact bodyPost_ret (results_row_tmp rfl _ _ (w.heap.size + 2) 27 _ (0, 0) _ _ rfl rfl (RES.out.put6 _ _ _ _ _ _) Tryz.underlying27 rfl (by kernel_rfl)) rfl ⟨_, _, rfl, (RdN.set6 RES.out rfl (RdN.none0 _) _ _ _ _ _ _), (RdN.set6 RES.out rfl (RdN.none0 _) _ _ _ _ _ _), (bel_set6 (g := w.heap.size + 2) HW.out (by omega) _ _ _ _ _ _)⟩
theorem kLogic_or (ba bb ga gb : Bool) (sa sb : ByteArray) (A B A' B' : Option Addr) (c d c' d' : Nat) (xs ys xs' ys' : List Nat) (t : Int) (w : World) (h1 : RdL w A xs) (h2 : RdL w B ys) (h3 : RdL w A' xs') (h4 : RdL w B' ys') (m1 : Lim xs) (m2 : Lim ys) (m3 : Lim xs') (m4 : Lim ys') (l1 : xs.length ≤ 18) (l2 : ys.length ≤ 18) (l3 : xs'.length ≤ 18) (l4 : ys'.length ≤ 18) (k1 : xs.length ≤ c) (k2 : ys.length ≤ d) (k3 : xs'.length ≤ c') (k4 : ys'.length ≤ d') (ht : truthB t = true) :
 Calls Tryz.prog 23 #[.string ⟨#[124, 124]⟩, .agg #[.int .i64 1, .bool ba, .string sa, .bool ga, .slice A xs.length c, .slice B ys.length d], .agg #[.int .i64 1, .bool bb, .string sb, .bool gb, .slice A' xs'.length c', .slice B' ys'.length d'], .int .i64 t] w (RetV 1 (ba || bb) ⟨#[]⟩ noQ 0 w) := by
 have R1 := Lib.hid h1; clear h1
 have R2 := Lib.hid h2; clear h2
 have R3 := Lib.hid h3; clear h3
 have R4 := Lib.hid h4; clear h4
 have M4 := Lib.hid (And.intro m1 (And.intro m2 (And.intro m3 m4))); clear m1 m2 m3 m4
 have L4 := Lib.hid (And.intro l1 (And.intro l2 (And.intro l3 l4))); clear l1 l2 l3 l4
 have K4 := Lib.hid (And.intro k1 (And.intro k2 (And.intro k3 k4))); clear k1 k2 k3 k4
 have KT := Lib.hid (fun W => kTruth_is t W ht); clear ht
 obtain ⟨wa, hwa⟩ : ∃ wa, wa = ((w.alloc (.cells #[.int .i64 1, .bool ba, .string sa, .bool ga, .slice A xs.length c, .slice B ys.length d] 27)).alloc (.cells #[.int .i64 1, .bool bb, .string sb, .bool gb, .slice A' xs'.length c', .slice B' ys'.length d'] 27)).alloc (.cells #[.int .i64 0, .bool false, .string ⟨#[]⟩, .bool false, .slice none 0 0, .slice none 0 0] 27) := ⟨_, rfl⟩
 obtain ⟨hbl, CX, CY, RES⟩ := kal3 hwa
 replace R1 := hmR R1 hbl
 replace R2 := hmR R2 hbl
 replace R3 := hmR R3 hbl
 replace R4 := hmR R4 hbl
 have HW := Lib.hid hbl; clear hbl
 replace CX := Lib.hid CX
 replace CY := Lib.hid CY
 replace RES := Lib.hid RES
 go_enter Tryz.func23, Tryz.ntmps23
 go_upto_region 1 with fail
 rw [← hwa]
 clear hwa
 obtain ⟨CX0, CX1, CX2, CX3, CX4, CX5⟩ := CX.out.cs6
 obtain ⟨CY0, CY1, CY2, CY3, CY4, CY5⟩ := CY.out.cs6
 go_wp2_with fail
 refine (KT.out _).mono ?_
 rintro e wv ⟨rfl, hwv⟩
 obtain rfl := hwv.symm
 clear hwv
 cases ba
 · cases bb
   · obtain ⟨d0, d1, d2, d3, d4, d5⟩ := RES.out.cs6
     obtain ⟨f0, f1, f2, f3, f4, f5⟩ := RES.out.fz6
     go_wp2
     exact bodyPost_ret (results_row_tmp rfl _ _ (w.heap.size + 2) 27 _ (0, 0) _ _ rfl rfl (RES.out.put6 _ _ _ _ _ _) Tryz.underlying27 rfl (by kernel_rfl)) rfl ⟨_, _, rfl, (RdN.set6 RES.out rfl (RdN.none0 _) _ _ _ _ _ _), (RdN.set6 RES.out rfl (RdN.none0 _) _ _ _ _ _ _), (bel_set6 (g := w.heap.size + 2) HW.out (by omega) _ _ _ _ _ _)⟩
   · obtain ⟨d0, d1, d2, d3, d4, d5⟩ := RES.out.cs6
     obtain ⟨f0, f1, f2, f3, f4, f5⟩ := RES.out.fz6
     go_wp2
     exact bodyPost_ret (results_row_tmp rfl _ _ (w.heap.size + 2) 27 _ (0, 0) _ _ rfl rfl (RES.out.put6 _ _ _ _ _ _) Tryz.underlying27 rfl (by kernel_rfl)) rfl ⟨_, _, rfl, (RdN.set6 RES.out rfl (RdN.none0 _) _ _ _ _ _ _), (RdN.set6 RES.out rfl (RdN.none0 _) _ _ _ _ _ _), (bel_set6 (g := w.heap.size + 2) HW.out (by omega) _ _ _ _ _ _)⟩
 · cases bb
   · obtain ⟨d0, d1, d2, d3, d4, d5⟩ := RES.out.cs6
     obtain ⟨f0, f1, f2, f3, f4, f5⟩ := RES.out.fz6
     go_wp2
     exact bodyPost_ret (results_row_tmp rfl _ _ (w.heap.size + 2) 27 _ (0, 0) _ _ rfl rfl (RES.out.put6 _ _ _ _ _ _) Tryz.underlying27 rfl (by kernel_rfl)) rfl ⟨_, _, rfl, (RdN.set6 RES.out rfl (RdN.none0 _) _ _ _ _ _ _), (RdN.set6 RES.out rfl (RdN.none0 _) _ _ _ _ _ _), (bel_set6 (g := w.heap.size + 2) HW.out (by omega) _ _ _ _ _ _)⟩
   · obtain ⟨d0, d1, d2, d3, d4, d5⟩ := RES.out.cs6
     obtain ⟨f0, f1, f2, f3, f4, f5⟩ := RES.out.fz6
     go_wp2
     exact bodyPost_ret (results_row_tmp rfl _ _ (w.heap.size + 2) 27 _ (0, 0) _ _ rfl rfl (RES.out.put6 _ _ _ _ _ _) Tryz.underlying27 rfl (by kernel_rfl)) rfl ⟨_, _, rfl, (RdN.set6 RES.out rfl (RdN.none0 _) _ _ _ _ _ _), (RdN.set6 RES.out rfl (RdN.none0 _) _ _ _ _ _ _), (bel_set6 (g := w.heap.size + 2) HW.out (by omega) _ _ _ _ _ _)⟩
theorem kLogic_type (op : ByteArray) (ka kb : Int) (ba bb ga gb : Bool) (sa sb : ByteArray) (A B A' B' : Option Addr) (c d c' d' : Nat) (xs ys xs' ys' : List Nat) (t : Int) (w : World) (h1 : RdL w A xs) (h2 : RdL w B ys) (h3 : RdL w A' xs') (h4 : RdL w B' ys') (m1 : Lim xs) (m2 : Lim ys) (m3 : Lim xs') (m4 : Lim ys') (l1 : xs.length ≤ 18) (l2 : ys.length ≤ 18) (l3 : xs'.length ≤ 18) (l4 : ys'.length ≤ 18) (k1 : xs.length ≤ c) (k2 : ys.length ≤ d) (k3 : xs'.length ≤ c') (k4 : ys'.length ≤ d') (hx : ¬ (ka = 1 ∧ kb = 1 ∧ truthB t = true)) :
 Calls Tryz.prog 23 #[.string op, .agg #[.int .i64 ka, .bool ba, .string sa, .bool ga, .slice A xs.length c, .slice B ys.length d], .agg #[.int .i64 kb, .bool bb, .string sb, .bool gb, .slice A' xs'.length c', .slice B' ys'.length d'], .int .i64 t] w (RetV 0 false ⟨#[]⟩ noQ 11 w) := by
 have R1 := Lib.hid h1; clear h1
 have R2 := Lib.hid h2; clear h2
 have R3 := Lib.hid h3; clear h3
 have R4 := Lib.hid h4; clear h4
 have M4 := Lib.hid (And.intro m1 (And.intro m2 (And.intro m3 m4))); clear m1 m2 m3 m4
 have L4 := Lib.hid (And.intro l1 (And.intro l2 (And.intro l3 l4))); clear l1 l2 l3 l4
 have K4 := Lib.hid (And.intro k1 (And.intro k2 (And.intro k3 k4))); clear k1 k2 k3 k4
 obtain ⟨v, hv⟩ : ∃ v, truthB t = v := ⟨_, rfl⟩
 have KT := Lib.hid (fun W => kTruth_is t W hv)
 rw [hv] at hx; clear hv
 obtain ⟨wa, hwa⟩ : ∃ wa, wa = ((w.alloc (.cells #[.int .i64 ka, .bool ba, .string sa, .bool ga, .slice A xs.length c, .slice B ys.length d] 27)).alloc (.cells #[.int .i64 kb, .bool bb, .string sb, .bool gb, .slice A' xs'.length c', .slice B' ys'.length d'] 27)).alloc (.cells #[.int .i64 0, .bool false, .string ⟨#[]⟩, .bool false, .slice none 0 0, .slice none 0 0] 27) := ⟨_, rfl⟩
 obtain ⟨hbl, CX, CY, RES⟩ := kal3 hwa
 replace R1 := hmR R1 hbl
 replace R2 := hmR R2 hbl
 replace R3 := hmR R3 hbl
 replace R4 := hmR R4 hbl
 have HW := Lib.hid hbl; clear hbl
 replace CX := Lib.hid CX
 replace CY := Lib.hid CY
 replace RES := Lib.hid RES
 go_enter Tryz.func23, Tryz.ntmps23
 go_upto_region 1 with fail
 rw [← hwa]
 clear hwa
 obtain ⟨CX0, CX1, CX2, CX3, CX4, CX5⟩ := CX.out.cs6
 obtain ⟨CY0, CY1, CY2, CY3, CY4, CY5⟩ := CY.out.cs6
 have hka : ka = 1 ∨ ((ka == 1) = false ∧ ¬ ka = 1 ∧ (ka != 1) = true) := by by_cases h : ka = 1 <;> simp [h]
 rcases hka with rfl | ⟨g1, g2, g3⟩
 · have hkb : kb = 1 ∨ ((kb == 1) = false ∧ ¬ kb = 1 ∧ (kb != 1) = true) := by by_cases h : kb = 1 <;> simp [h]
   rcases hkb with rfl | ⟨g4, g5, g6⟩
   · obtain rfl : v = false := by simpa using hx
     clear hx
     go_wp2_with fail
     refine (KT.out _).mono ?_
     rintro e wv ⟨rfl, hwv⟩
     obtain rfl := hwv.symm
     clear hwv
     obtain ⟨d0, d1, d2, d3, d4, d5⟩ := RES.out.cs6
     obtain ⟨f0, f1, f2, f3, f4, f5⟩ := RES.out.fz6
     go_wp2
     exact bodyPost_ret (results_row_tmp rfl _ _ (w.heap.size + 2) 27 _ (0, 0) _ _ rfl rfl (RES.out.put6 _ _ _ _ _ _) Tryz.underlying27 rfl (by kernel_rfl)) rfl ⟨_, _, rfl, (RdN.set6 RES.out rfl (RdN.none0 _) _ _ _ _ _ _), (RdN.set6 RES.out rfl (RdN.none0 _) _ _ _ _ _ _), (bel_set6 (g := w.heap.size + 2) HW.out (by omega) _ _ _ _ _ _)⟩
   · clear hx
     obtain ⟨d0, d1, d2, d3, d4, d5⟩ := RES.out.cs6
     obtain ⟨f0, f1, f2, f3, f4, f5⟩ := RES.out.fz6
     go_wp2
     exact bodyPost_ret (results_row_tmp rfl _ _ (w.heap.size + 2) 27 _ (0, 0) _ _ rfl rfl (RES.out.put6 _ _ _ _ _ _) Tryz.underlying27 rfl (by kernel_rfl)) rfl ⟨_, _, rfl, (RdN.set6 RES.out rfl (RdN.none0 _) _ _ _ _ _ _), (RdN.set6 RES.out rfl (RdN.none0 _) _ _ _ _ _ _), (bel_set6 (g := w.heap.size + 2) HW.out (by omega) _ _ _ _ _ _)⟩
 · clear hx
   obtain ⟨d0, d1, d2, d3, d4, d5⟩ := RES.out.cs6
   obtain ⟨f0, f1, f2, f3, f4, f5⟩ := RES.out.fz6
   go_wp2
   exact bodyPost_ret (results_row_tmp rfl _ _ (w.heap.size + 2) 27 _ (0, 0) _ _ rfl rfl (RES.out.put6 _ _ _ _ _ _) Tryz.underlying27 rfl (by kernel_rfl)) rfl ⟨_, _, rfl, (RdN.set6 RES.out rfl (RdN.none0 _) _ _ _ _ _ _), (RdN.set6 RES.out rfl (RdN.none0 _) _ _ _ _ _ _), (bel_set6 (g := w.heap.size + 2) HW.out (by omega) _ _ _ _ _ _)⟩
theorem kBin_and {k e : Int} {b : Bool} {s : ByteArray} {q : Q} (ka kb : Int) (ba bb ga gb : Bool) (sa sb : ByteArray) (A B A' B' : Option Addr) (c d c' d' : Nat) (xs ys xs' ys' : List Nat) (t : Int) (w : World) (h1 : RdL w A xs) (h2 : RdL w B ys) (h3 : RdL w A' xs') (h4 : RdL w B' ys') (m1 : Lim xs) (m2 : Lim ys) (m3 : Lim xs') (m4 : Lim ys') (l1 : xs.length ≤ 18) (l2 : ys.length ≤ 18) (l3 : xs'.length ≤ 18) (l4 : ys'.length ≤ 18) (k1 : xs.length ≤ c) (k2 : ys.length ≤ d) (k3 : xs'.length ≤ c') (k4 : ys'.length ≤ d') (hr1 : rightV ka ba sa ga xs ys = true) (hr2 : rightV kb bb sb gb xs' ys' = true) (hb : basB t = true) (hC : ∀ W, RdL W A xs → RdL W B ys → RdL W A' xs' → RdL W B' ys' → Calls Tryz.prog 23 #[.string ⟨#[38, 38]⟩, .agg #[.int .i64 ka, .bool ba, .string sa, .bool ga, .slice A xs.length c, .slice B ys.length d], .agg #[.int .i64 kb, .bool bb, .string sb, .bool gb, .slice A' xs'.length c', .slice B' ys'.length d'], .int .i64 t] W (RetV k b s q e W)) :
 Calls Tryz.prog 6 #[.string ⟨#[38, 38]⟩, .agg #[.int .i64 ka, .bool ba, .string sa, .bool ga, .slice A xs.length c, .slice B ys.length d], .agg #[.int .i64 kb, .bool bb, .string sb, .bool gb, .slice A' xs'.length c', .slice B' ys'.length d'], .int .i64 t] w (RetV k b s q e w) := by
 have R1 := Lib.hid h1; clear h1
 have R2 := Lib.hid h2; clear h2
 have R3 := Lib.hid h3; clear h3
 have R4 := Lib.hid h4; clear h4
 have M4 := Lib.hid (And.intro m1 (And.intro m2 (And.intro m3 m4))); clear m1 m2 m3 m4
 have L4 := Lib.hid (And.intro l1 (And.intro l2 (And.intro l3 l4))); clear l1 l2 l3 l4
 have K4 := Lib.hid (And.intro k1 (And.intro k2 (And.intro k3 k4))); clear k1 k2 k3 k4
 have HR1 := Lib.hid hr1; clear hr1
 have HR2 := Lib.hid hr2; clear hr2
 have KB := Lib.hid (fun W => kBas_is t W hb); clear hb
 have HC := Lib.hid hC; clear hC
 obtain ⟨wa, hwa⟩ : ∃ wa, wa = ((w.alloc (.cells #[.int .i64 ka, .bool ba, .string sa, .bool ga, .slice A xs.length c, .slice B ys.length d] 27)).alloc (.cells #[.int .i64 kb, .bool bb, .string sb, .bool gb, .slice A' xs'.length c', .slice B' ys'.length d'] 27)).alloc (.cells #[.int .i64 0, .bool false, .string ⟨#[]⟩, .bool false, .slice none 0 0, .slice none 0 0] 27) := ⟨_, rfl⟩
 obtain ⟨hbl, CX, CY, RES⟩ := kal3 hwa
 replace R1 := hmR R1 hbl
 replace R2 := hmR R2 hbl
 replace R3 := hmR R3 hbl
 replace R4 := hmR R4 hbl
 have HW := Lib.hid hbl; clear hbl
 replace CX := Lib.hid CX
 replace CY := Lib.hid CY
 replace RES := Lib.hid RES
 go_enter Tryz.func6, Tryz.ntmps6
 go_wp2_with fail
 rw [← hwa]
 clear hwa
 obtain ⟨CX0, CX1, CX2, CX3, CX4, CX5⟩ := CX.out.cs6
 obtain ⟨CY0, CY1, CY2, CY3, CY4, CY5⟩ := CY.out.cs6
 refine (kRight_any ka ba sa ga A B c d xs ys _ R1.out R2.out M4.out.1 M4.out.2.1 L4.out.1 L4.out.2.1 K4.out.1 K4.out.2.1).mono ?_
 rintro e w1 ⟨rfl, hbl⟩
 replace R1 := hmR R1 hbl
 replace R2 := hmR R2 hbl
 replace R3 := hmR R3 hbl
 replace R4 := hmR R4 hbl
 replace CX := hmB CX hbl
 replace CY := hmB CY hbl
 replace RES := hmB RES hbl
 replace HW := hmW HW hbl; clear hbl
 clear CX0 CX1 CX2 CX3 CX4 CX5 CY0 CY1 CY2 CY3 CY4 CY5
 obtain ⟨CX0, CX1, CX2, CX3, CX4, CX5⟩ := CX.out.cs6
 obtain ⟨CY0, CY1, CY2, CY3, CY4, CY5⟩ := CY.out.cs6
 rw [HR1.out]
 go_wp2_with fail
 refine (kRight_any kb bb sb gb A' B' c' d' xs' ys' _ R3.out R4.out M4.out.2.2.1 M4.out.2.2.2 L4.out.2.2.1 L4.out.2.2.2 K4.out.2.2.1 K4.out.2.2.2).mono ?_
 rintro e w2 ⟨rfl, hbl⟩
 replace R1 := hmR R1 hbl
 replace R2 := hmR R2 hbl
 replace R3 := hmR R3 hbl
 replace R4 := hmR R4 hbl
 replace CX := hmB CX hbl
 replace CY := hmB CY hbl
 replace RES := hmB RES hbl
 replace HW := hmW HW hbl; clear hbl
 clear CX0 CX1 CX2 CX3 CX4 CX5 CY0 CY1 CY2 CY3 CY4 CY5
 obtain ⟨CX0, CX1, CX2, CX3, CX4, CX5⟩ := CX.out.cs6
 obtain ⟨CY0, CY1, CY2, CY3, CY4, CY5⟩ := CY.out.cs6
 rw [HR2.out]
 go_wp2_with fail
 refine (KB.out _).mono ?_
 rintro e wv ⟨rfl, hwv⟩
 obtain rfl := hwv.symm
 clear hwv
 go_wp2_with fail
 refine (HC.out _ R1.out R2.out R3.out R4.out).mono ?_
 rintro e w3 ⟨vx, vy, rfl, hx, hy, hbl⟩
 replace R1 := hmR R1 hbl
 replace R2 := hmR R2 hbl
 replace R3 := hmR R3 hbl
 replace R4 := hmR R4 hbl
 replace CX := hmB CX hbl
 replace CY := hmB CY hbl
 replace RES := hmB RES hbl
 replace HW := hmW HW hbl; clear hbl
 clear CX0 CX1 CX2 CX3 CX4 CX5 CY0 CY1 CY2 CY3 CY4 CY5
 obtain ⟨CX0, CX1, CX2, CX3, CX4, CX5⟩ := CX.out.cs6
 obtain ⟨CY0, CY1, CY2, CY3, CY4, CY5⟩ := CY.out.cs6
 obtain ⟨Ax, cx, rfl, hcx, hrx⟩ := hx.row
 obtain ⟨Ay, cy, rfl, hcy, hry⟩ := hy.row
 have HX := Lib.hid hx; have HY := Lib.hid hy; clear hx hy hcx hrx hcy hry
 obtain ⟨d0, d1, d2, d3, d4, d5⟩ := RES.out.cs6
 obtain ⟨f0, f1, f2, f3, f4, f5⟩ := RES.out.fz6
 go_wp2
 exact bodyPost_ret (results_row_tmp rfl _ _ (w.heap.size + 2) 27 _ (0, 0) _ _ rfl rfl (RES.out.put6 _ _ _ _ _ _) Tryz.underlying27 rfl (by kernel_rfl)) rfl ⟨_, _, rfl, (RdN.set6 RES.out rfl (HX.out) _ _ _ _ _ _), (RdN.set6 RES.out rfl (HY.out) _ _ _ _ _ _), (bel_set6 (g := w.heap.size + 2) HW.out (by omega) _ _ _ _ _ _)⟩
theorem kBin_or {k e : Int} {b : Bool} {s : ByteArray} {q : Q} (ka kb : Int) (ba bb ga gb : Bool) (sa sb : ByteArray) (A B A' B' : Option Addr) (c d c' d' : Nat) (xs ys xs' ys' : List Nat) (t : Int) (w : World) (h1 : RdL w A xs) (h2 : RdL w B ys) (h3 : RdL w A' xs') (h4 : RdL w B' ys') (m1 : Lim xs) (m2 : Lim ys) (m3 : Lim xs') (m4 : Lim ys') (l1 : xs.length ≤ 18) (l2 : ys.length ≤ 18) (l3 : xs'.length ≤ 18) (l4 : ys'.length ≤ 18) (k1 : xs.length ≤ c) (k2 : ys.length ≤ d) (k3 : xs'.length ≤ c') (k4 : ys'.length ≤ d') (hr1 : rightV ka ba sa ga xs ys = true) (hr2 : rightV kb bb sb gb xs' ys' = true) (hb : basB t = true) (hC : ∀ W, RdL W A xs → RdL W B ys → RdL W A' xs' → RdL W B' ys' → Calls Tryz.prog 23 #[.string ⟨#[124, 124]⟩, .agg #[.int .i64 ka, .bool ba, .string sa, .bool ga, .slice A xs.length c, .slice B ys.length d], .agg #[.int .i64 kb, .bool bb, .string sb, .bool gb, .slice A' xs'.length c', .slice B' ys'.length d'], .int .i64 t] W (RetV k b s q e W)) :
 Calls Tryz.prog 6 #[.string ⟨#[124, 124]⟩, .agg #[.int .i64 ka, .bool ba, .string sa, .bool ga, .slice A xs.length c, .slice B ys.length d], .agg #[.int .i64 kb, .bool bb, .string sb, .bool gb, .slice A' xs'.length c', .slice B' ys'.length d'], .int .i64 t] w (RetV k b s q e w) := by
 have R1 := Lib.hid h1; clear h1
 have R2 := Lib.hid h2; clear h2
 have R3 := Lib.hid h3; clear h3
 have R4 := Lib.hid h4; clear h4
 have M4 := Lib.hid (And.intro m1 (And.intro m2 (And.intro m3 m4))); clear m1 m2 m3 m4
 have L4 := Lib.hid (And.intro l1 (And.intro l2 (And.intro l3 l4))); clear l1 l2 l3 l4
 have K4 := Lib.hid (And.intro k1 (And.intro k2 (And.intro k3 k4))); clear k1 k2 k3 k4
 have HR1 := Lib.hid hr1; clear hr1
 have HR2 := Lib.hid hr2; clear hr2
 have KB := Lib.hid (fun W => kBas_is t W hb); clear hb
 have HC := Lib.hid hC; clear hC
 obtain ⟨wa, hwa⟩ : ∃ wa, wa = ((w.alloc (.cells #[.int .i64 ka, .bool ba, .string sa, .bool ga, .slice A xs.length c, .slice B ys.length d] 27)).alloc (.cells #[.int .i64 kb, .bool bb, .string sb, .bool gb, .slice A' xs'.length c', .slice B' ys'.length d'] 27)).alloc (.cells #[.int .i64 0, .bool false, .string ⟨#[]⟩, .bool false, .slice none 0 0, .slice none 0 0] 27) := ⟨_, rfl⟩
 obtain ⟨hbl, CX, CY, RES⟩ := kal3 hwa
 replace R1 := hmR R1 hbl
 replace R2 := hmR R2 hbl
 replace R3 := hmR R3 hbl
 replace R4 := hmR R4 hbl
 have HW := Lib.hid hbl; clear hbl
 replace CX := Lib.hid CX
 replace CY := Lib.hid CY
 replace RES := Lib.hid RES
 go_enter Tryz.func6, Tryz.ntmps6
 go_wp2_with fail
 rw [← hwa]
 clear hwa
 obtain ⟨CX0, CX1, CX2, CX3, CX4, CX5⟩ := CX.out.cs6
 obtain ⟨CY0, CY1, CY2, CY3, CY4, CY5⟩ := CY.out.cs6
 refine (kRight_any ka ba sa ga A B c d xs ys _ R1.out R2.out M4.out.1 M4.out.2.1 L4.out.1 L4.out.2.1 K4.out.1 K4.out.2.1).mono ?_
 rintro e w1 ⟨rfl, hbl⟩
 replace R1 := hmR R1 hbl
 replace R2 := hmR R2 hbl
 replace R3 := hmR R3 hbl
 replace R4 := hmR R4 hbl
 replace CX := hmB CX hbl
 replace CY := hmB CY hbl
 replace RES := hmB RES hbl
 replace HW := hmW HW hbl; clear hbl
 clear CX0 CX1 CX2 CX3 CX4 CX5 CY0 CY1 CY2 CY3 CY4 CY5
 obtain ⟨CX0, CX1, CX2, CX3, CX4, CX5⟩ := CX.out.cs6
 obtain ⟨CY0, CY1, CY2, CY3, CY4, CY5⟩ := CY.out.cs6
 rw [HR1.out]
 go_wp2_with fail
 refine (kRight_any kb bb sb gb A' B' c' d' xs' ys' _ R3.out R4.out M4.out.2.2.1 M4.out.2.2.2 L4.out.2.2.1 L4.out.2.2.2 K4.out.2.2.1 K4.out.2.2.2).mono ?_
 rintro e w2 ⟨rfl, hbl⟩
 replace R1 := hmR R1 hbl
 replace R2 := hmR R2 hbl
 replace R3 := hmR R3 hbl
 replace R4 := hmR R4 hbl
 replace CX := hmB CX hbl
 replace CY := hmB CY hbl
 replace RES := hmB RES hbl
 replace HW := hmW HW hbl; clear hbl
 clear CX0 CX1 CX2 CX3 CX4 CX5 CY0 CY1 CY2 CY3 CY4 CY5
 obtain ⟨CX0, CX1, CX2, CX3, CX4, CX5⟩ := CX.out.cs6
 obtain ⟨CY0, CY1, CY2, CY3, CY4, CY5⟩ := CY.out.cs6
 rw [HR2.out]
 go_wp2_with fail
 refine (KB.out _).mono ?_
 rintro e wv ⟨rfl, hwv⟩
 obtain rfl := hwv.symm
 clear hwv
 go_wp2_with fail
 refine (HC.out _ R1.out R2.out R3.out R4.out).mono ?_
 rintro e w3 ⟨vx, vy, rfl, hx, hy, hbl⟩
 replace R1 := hmR R1 hbl
 replace R2 := hmR R2 hbl
 replace R3 := hmR R3 hbl
 replace R4 := hmR R4 hbl
 replace CX := hmB CX hbl
 replace CY := hmB CY hbl
 replace RES := hmB RES hbl
 replace HW := hmW HW hbl; clear hbl
 clear CX0 CX1 CX2 CX3 CX4 CX5 CY0 CY1 CY2 CY3 CY4 CY5
 obtain ⟨CX0, CX1, CX2, CX3, CX4, CX5⟩ := CX.out.cs6
 obtain ⟨CY0, CY1, CY2, CY3, CY4, CY5⟩ := CY.out.cs6
 obtain ⟨Ax, cx, rfl, hcx, hrx⟩ := hx.row
 obtain ⟨Ay, cy, rfl, hcy, hry⟩ := hy.row
 have HX := Lib.hid hx; have HY := Lib.hid hy; clear hx hy hcx hrx hcy hry
 obtain ⟨d0, d1, d2, d3, d4, d5⟩ := RES.out.cs6
 obtain ⟨f0, f1, f2, f3, f4, f5⟩ := RES.out.fz6
 go_wp2
 exact bodyPost_ret (results_row_tmp rfl _ _ (w.heap.size + 2) 27 _ (0, 0) _ _ rfl rfl (RES.out.put6 _ _ _ _ _ _) Tryz.underlying27 rfl (by kernel_rfl)) rfl ⟨_, _, rfl, (RdN.set6 RES.out rfl (HX.out) _ _ _ _ _ _), (RdN.set6 RES.out rfl (HY.out) _ _ _ _ _ _), (bel_set6 (g := w.heap.size + 2) HW.out (by omega) _ _ _ _ _ _)⟩
theorem kBin_unk (op : ByteArray) (ka kb : Int) (ba bb ga gb : Bool) (sa sb : ByteArray) (A B A' B' : Option Addr) (c d c' d' : Nat) (xs ys xs' ys' : List Nat) (t : Int) (w : World) (h1 : RdL w A xs) (h2 : RdL w B ys) (h3 : RdL w A' xs') (h4 : RdL w B' ys') (m1 : Lim xs) (m2 : Lim ys) (m3 : Lim xs') (m4 : Lim ys') (l1 : xs.length ≤ 18) (l2 : ys.length ≤ 18) (l3 : xs'.length ≤ 18) (l4 : ys'.length ≤ 18) (k1 : xs.length ≤ c) (k2 : ys.length ≤ d) (k3 : xs'.length ≤ c') (k4 : ys'.length ≤ d') (hr1 : rightV ka ba sa ga xs ys = true) (hr2 : rightV kb bb sb gb xs' ys' = true) (hb : basB t = true) (n1 : op ≠ ⟨#[38, 38]⟩) (n2 : op ≠ ⟨#[124, 124]⟩) (hL : ∀ g1 g2 g3 g4 g5 g6, lookL .string (.string op) (opsTab g1 g2 g3 g4 g5 g6) = some none) :
 Calls Tryz.prog 6 #[.string op, .agg #[.int .i64 ka, .bool ba, .string sa, .bool ga, .slice A xs.length c, .slice B ys.length d], .agg #[.int .i64 kb, .bool bb, .string sb, .bool gb, .slice A' xs'.length c', .slice B' ys'.length d'], .int .i64 t] w (RetV 0 false ⟨#[]⟩ noQ 1 w) := by
 have R1 := Lib.hid h1; clear h1
 have R2 := Lib.hid h2; clear h2
 have R3 := Lib.hid h3; clear h3
 have R4 := Lib.hid h4; clear h4
 have M4 := Lib.hid (And.intro m1 (And.intro m2 (And.intro m3 m4))); clear m1 m2 m3 m4
 have L4 := Lib.hid (And.intro l1 (And.intro l2 (And.intro l3 l4))); clear l1 l2 l3 l4
 have K4 := Lib.hid (And.intro k1 (And.intro k2 (And.intro k3 k4))); clear k1 k2 k3 k4
 obtain ⟨s1, u1⟩ := str_no (l := [38, 38]) (t := ⟨#[38, 38]⟩) (by rw [ByteArray.toList_eq]) n1
 obtain ⟨s2, u2⟩ := str_no (l := [124, 124]) (t := ⟨#[124, 124]⟩) (by rw [ByteArray.toList_eq]) n2
 have HSN := Lib.hid (And.intro n1 n2); clear n1 n2
 have HR1 := Lib.hid hr1; clear hr1
 have HR2 := Lib.hid hr2; clear hr2
 have KB := Lib.hid (fun W => kBas_is t W hb); clear hb
 have HLK := Lib.hid hL; clear hL
 obtain ⟨wa, hwa⟩ : ∃ wa, wa = ((w.alloc (.cells #[.int .i64 ka, .bool ba, .string sa, .bool ga, .slice A xs.length c, .slice B ys.length d] 27)).alloc (.cells #[.int .i64 kb, .bool bb, .string sb, .bool gb, .slice A' xs'.length c', .slice B' ys'.length d'] 27)).alloc (.cells #[.int .i64 0, .bool false, .string ⟨#[]⟩, .bool false, .slice none 0 0, .slice none 0 0] 27) := ⟨_, rfl⟩
 obtain ⟨hbl, CX, CY, RES⟩ := kal3 hwa
 replace R1 := hmR R1 hbl
 replace R2 := hmR R2 hbl
 replace R3 := hmR R3 hbl
 replace R4 := hmR R4 hbl
 have HW := Lib.hid hbl; clear hbl
 replace CX := Lib.hid CX
 replace CY := Lib.hid CY
 replace RES := Lib.hid RES
 go_enter Tryz.func6, Tryz.ntmps6
 go_wp2_with fail
 rw [← hwa]
 clear hwa
 obtain ⟨CX0, CX1, CX2, CX3, CX4, CX5⟩ := CX.out.cs6
 obtain ⟨CY0, CY1, CY2, CY3, CY4, CY5⟩ := CY.out.cs6
 refine (kRight_any ka ba sa ga A B c d xs ys _ R1.out R2.out M4.out.1 M4.out.2.1 L4.out.1 L4.out.2.1 K4.out.1 K4.out.2.1).mono ?_
 rintro e w1 ⟨rfl, hbl⟩
 replace R1 := hmR R1 hbl
 replace R2 := hmR R2 hbl
 replace R3 := hmR R3 hbl
 replace R4 := hmR R4 hbl
 replace CX := hmB CX hbl
 replace CY := hmB CY hbl
 replace RES := hmB RES hbl
 replace HW := hmW HW hbl; clear hbl
 clear CX0 CX1 CX2 CX3 CX4 CX5 CY0 CY1 CY2 CY3 CY4 CY5
 obtain ⟨CX0, CX1, CX2, CX3, CX4, CX5⟩ := CX.out.cs6
 obtain ⟨CY0, CY1, CY2, CY3, CY4, CY5⟩ := CY.out.cs6
 rw [HR1.out]
 go_wp2_with fail
 refine (kRight_any kb bb sb gb A' B' c' d' xs' ys' _ R3.out R4.out M4.out.2.2.1 M4.out.2.2.2 L4.out.2.2.1 L4.out.2.2.2 K4.out.2.2.1 K4.out.2.2.2).mono ?_
 rintro e w2 ⟨rfl, hbl⟩
 replace R1 := hmR R1 hbl
 replace R2 := hmR R2 hbl
 replace R3 := hmR R3 hbl
 replace R4 := hmR R4 hbl
 replace CX := hmB CX hbl
 replace CY := hmB CY hbl
 replace RES := hmB RES hbl
 replace HW := hmW HW hbl; clear hbl
 clear CX0 CX1 CX2 CX3 CX4 CX5 CY0 CY1 CY2 CY3 CY4 CY5
 obtain ⟨CX0, CX1, CX2, CX3, CX4, CX5⟩ := CX.out.cs6
 obtain ⟨CY0, CY1, CY2, CY3, CY4, CY5⟩ := CY.out.cs6
 rw [HR2.out]
 go_wp2_with fail
 refine (KB.out _).mono ?_
 rintro e wv ⟨rfl, hwv⟩
 obtain rfl := hwv.symm
 clear hwv
 go_wp2_with fail
 refine (operators_at _).mono ?_
 rintro e w3 ⟨bm, g1, g2, g3, g4, g5, g6, rfl, hmp, hop, hbl⟩
 replace R1 := hmR R1 hbl
 replace R2 := hmR R2 hbl
 replace R3 := hmR R3 hbl
 replace R4 := hmR R4 hbl
 replace CX := hmB CX hbl
 replace CY := hmB CY hbl
 replace RES := hmB RES hbl
 replace HW := hmW HW hbl; clear hbl
 clear CX0 CX1 CX2 CX3 CX4 CX5 CY0 CY1 CY2 CY3 CY4 CY5
 obtain ⟨CX0, CX1, CX2, CX3, CX4, CX5⟩ := CX.out.cs6
 obtain ⟨CY0, CY1, CY2, CY3, CY4, CY5⟩ := CY.out.cs6
 have HMP := Lib.hid hmp; clear hmp hop
 have hlk2 : (Instr.lookup 56 (.map (some bm)) (.string op) true).run Tryz.prog _ = .ok (.tuple #[.agg #[.bool false, .nilFunc], .bool false]) _ := run_look0 HMP.out (HLK.out g1 g2 g3 g4 g5 g6)
 obtain ⟨wo, hwo⟩ : ∃ wo, wo = w3.alloc (.cells #[.bool false, .nilFunc] 54) := ⟨_, rfl⟩
 have hbl : Below w3.heap.size w3 wo := by rw [hwo]; exact bel_alloc (bel_refl _) _
 have CO : Blk wo w3.heap.size 54 #[.bool false, .nilFunc] := by rw [hwo]; exact Blk.new _ _ _
 replace CO := Lib.hid CO
 go_upto_region 6 with fail
 rw [← hwo]
 clear hwo hlk2
 replace R1 := hmR R1 hbl
 replace R2 := hmR R2 hbl
 replace R3 := hmR R3 hbl
 replace R4 := hmR R4 hbl
 replace CX := hmB CX hbl
 replace CY := hmB CY hbl
 replace RES := hmB RES hbl
 replace HW := hmW HW hbl; clear hbl
 clear CX0 CX1 CX2 CX3 CX4 CX5 CY0 CY1 CY2 CY3 CY4 CY5
 obtain ⟨CX0, CX1, CX2, CX3, CX4, CX5⟩ := CX.out.cs6
 obtain ⟨CY0, CY1, CY2, CY3, CY4, CY5⟩ := CY.out.cs6
 clear CX0 CX1 CX2 CX3 CX4 CX5 CY0 CY1 CY2 CY3 CY4 CY5
 obtain ⟨CX0, CX1, CX2, CX3, CX4, CX5⟩ := CX.out.cs6
 obtain ⟨CY0, CY1, CY2, CY3, CY4, CY5⟩ := CY.out.cs6
 obtain ⟨CO0, CO1⟩ := CO.out.cs2
 obtain ⟨d0, d1, d2, d3, d4, d5⟩ := RES.out.cs6
 obtain ⟨f0, f1, f2, f3, f4, f5⟩ := RES.out.fz6
 go_wp2
 exact bodyPost_ret (results_row_tmp rfl _ _ (w.heap.size + 2) 27 _ (0, 0) _ _ rfl rfl (RES.out.put6 _ _ _ _ _ _) Tryz.underlying27 rfl (by kernel_rfl)) rfl ⟨_, _, rfl, (RdN.set6 RES.out rfl (RdN.none0 _) _ _ _ _ _ _), (RdN.set6 RES.out rfl (RdN.none0 _) _ _ _ _ _ _), (bel_set6 (g := w.heap.size + 2) HW.out (by omega) _ _ _ _ _ _)⟩
theorem kBin_many (op : ByteArray) (wh : Bool) (F : FuncId) (cp : Nat → Nat → Nat → Nat → Nat → Nat → Array Value) (ba bb ga gb : Bool) (sa sb : ByteArray) (A B A' B' : Option Addr) (c d c' d' : Nat) (xs ys xs' ys' : List Nat) (t : Int) (w : World) (h1 : RdL w A xs) (h2 : RdL w B ys) (h3 : RdL w A' xs') (h4 : RdL w B' ys') (m1 : Lim xs) (m2 : Lim ys) (m3 : Lim xs') (m4 : Lim ys') (l1 : xs.length ≤ 18) (l2 : ys.length ≤ 18) (l3 : xs'.length ≤ 18) (l4 : ys'.length ≤ 18) (k1 : xs.length ≤ c) (k2 : ys.length ≤ d) (k3 : xs'.length ≤ c') (k4 : ys'.length ≤ d') (hr1 : rightV 2 ba sa ga xs ys = true) (hr2 : rightV 2 bb sb gb xs' ys' = true) (hb : basB t = true) (n1 : op ≠ ⟨#[38, 38]⟩) (n2 : op ≠ ⟨#[124, 124]⟩) (hL : ∀ g1 g2 g3 g4 g5 g6, lookL .string (.string op) (opsTab g1 g2 g3 g4 g5 g6) = some (some (.agg #[.bool wh, .func (.func F) #[] (cp g1 g2 g3 g4 g5 g6)]))) (ho : op.toList = [43]) (ht : wordsB t = true) (z1 : sa.size ≤ 1000) (z2 : sb.size ≤ 1000) (hx : 200 < sa.size + sb.size) :
 Calls Tryz.prog 6 #[.string op, .agg #[.int .i64 2, .bool ba, .string sa, .bool ga, .slice A xs.length c, .slice B ys.length d], .agg #[.int .i64 2, .bool bb, .string sb, .bool gb, .slice A' xs'.length c', .slice B' ys'.length d'], .int .i64 t] w (RetV 0 false ⟨#[]⟩ noQ 7 w) := by
 have R1 := Lib.hid h1; clear h1
 have R2 := Lib.hid h2; clear h2
 have R3 := Lib.hid h3; clear h3
 have R4 := Lib.hid h4; clear h4
 have M4 := Lib.hid (And.intro m1 (And.intro m2 (And.intro m3 m4))); clear m1 m2 m3 m4
 have L4 := Lib.hid (And.intro l1 (And.intro l2 (And.intro l3 l4))); clear l1 l2 l3 l4
 have K4 := Lib.hid (And.intro k1 (And.intro k2 (And.intro k3 k4))); clear k1 k2 k3 k4
 obtain ⟨s1, u1⟩ := str_no (l := [38, 38]) (t := ⟨#[38, 38]⟩) (by rw [ByteArray.toList_eq]) n1
 obtain ⟨s2, u2⟩ := str_no (l := [124, 124]) (t := ⟨#[124, 124]⟩) (by rw [ByteArray.toList_eq]) n2
 have HSN := Lib.hid (And.intro n1 n2); clear n1 n2
 have HR1 := Lib.hid hr1; clear hr1
 have HR2 := Lib.hid hr2; clear hr2
 have u3 : (op.toList == [43]) = true := by simpa using ho
 have u4 : op.toList = [43] := ho
 clear ho
 have KB := Lib.hid (fun W => kBas_is t W hb); clear hb
 have HLK := Lib.hid hL; clear hL
 have KX := Lib.hid (fun W => kText_is t W ht); clear ht
 have hw9 : IntKind.i64.wrap ((sa.size : Int) + (sb.size : Int)) = (sa.size : Int) + (sb.size : Int) := by rw [IntKind.wrap_i64]; omega
 have hgt : (200 : Int) < (sa.size : Int) + (sb.size : Int) := by omega
 have HS9 := Lib.hid (And.intro z1 (And.intro z2 hx)); clear z1 z2 hx
 obtain ⟨wa, hwa⟩ : ∃ wa, wa = ((w.alloc (.cells #[.int .i64 2, .bool ba, .string sa, .bool ga, .slice A xs.length c, .slice B ys.length d] 27)).alloc (.cells #[.int .i64 2, .bool bb, .string sb, .bool gb, .slice A' xs'.length c', .slice B' ys'.length d'] 27)).alloc (.cells #[.int .i64 0, .bool false, .string ⟨#[]⟩, .bool false, .slice none 0 0, .slice none 0 0] 27) := ⟨_, rfl⟩
 obtain ⟨hbl, CX, CY, RES⟩ := kal3 hwa
 replace R1 := hmR R1 hbl
 replace R2 := hmR R2 hbl
 replace R3 := hmR R3 hbl
 replace R4 := hmR R4 hbl
 have HW := Lib.hid hbl; clear hbl
 replace CX := Lib.hid CX
 replace CY := Lib.hid CY
 replace RES := Lib.hid RES
 go_enter Tryz.func6, Tryz.ntmps6
 go_wp2_with fail
 rw [← hwa]
 clear hwa
 obtain ⟨CX0, CX1, CX2, CX3, CX4, CX5⟩ := CX.out.cs6
 obtain ⟨CY0, CY1, CY2, CY3, CY4, CY5⟩ := CY.out.cs6
 refine (kRight_any 2 ba sa ga A B c d xs ys _ R1.out R2.out M4.out.1 M4.out.2.1 L4.out.1 L4.out.2.1 K4.out.1 K4.out.2.1).mono ?_
 rintro e w1 ⟨rfl, hbl⟩
 replace R1 := hmR R1 hbl
 replace R2 := hmR R2 hbl
 replace R3 := hmR R3 hbl
 replace R4 := hmR R4 hbl
 replace CX := hmB CX hbl
 replace CY := hmB CY hbl
 replace RES := hmB RES hbl
 replace HW := hmW HW hbl; clear hbl
 clear CX0 CX1 CX2 CX3 CX4 CX5 CY0 CY1 CY2 CY3 CY4 CY5
 obtain ⟨CX0, CX1, CX2, CX3, CX4, CX5⟩ := CX.out.cs6
 obtain ⟨CY0, CY1, CY2, CY3, CY4, CY5⟩ := CY.out.cs6
 rw [HR1.out]
 go_wp2_with fail
 refine (kRight_any 2 bb sb gb A' B' c' d' xs' ys' _ R3.out R4.out M4.out.2.2.1 M4.out.2.2.2 L4.out.2.2.1 L4.out.2.2.2 K4.out.2.2.1 K4.out.2.2.2).mono ?_
 rintro e w2 ⟨rfl, hbl⟩
 replace R1 := hmR R1 hbl
 replace R2 := hmR R2 hbl
 replace R3 := hmR R3 hbl
 replace R4 := hmR R4 hbl
 replace CX := hmB CX hbl
 replace CY := hmB CY hbl
 replace RES := hmB RES hbl
 replace HW := hmW HW hbl; clear hbl
 clear CX0 CX1 CX2 CX3 CX4 CX5 CY0 CY1 CY2 CY3 CY4 CY5
 obtain ⟨CX0, CX1, CX2, CX3, CX4, CX5⟩ := CX.out.cs6
 obtain ⟨CY0, CY1, CY2, CY3, CY4, CY5⟩ := CY.out.cs6
 rw [HR2.out]
 go_wp2_with fail
 refine (KB.out _).mono ?_
 rintro e wv ⟨rfl, hwv⟩
 obtain rfl := hwv.symm
 clear hwv
 go_wp2_with fail
 refine (operators_at _).mono ?_
 rintro e w3 ⟨bm, g1, g2, g3, g4, g5, g6, rfl, hmp, hop, hbl⟩
 replace R1 := hmR R1 hbl
 replace R2 := hmR R2 hbl
 replace R3 := hmR R3 hbl
 replace R4 := hmR R4 hbl
 replace CX := hmB CX hbl
 replace CY := hmB CY hbl
 replace RES := hmB RES hbl
 replace HW := hmW HW hbl; clear hbl
 clear CX0 CX1 CX2 CX3 CX4 CX5 CY0 CY1 CY2 CY3 CY4 CY5
 obtain ⟨CX0, CX1, CX2, CX3, CX4, CX5⟩ := CX.out.cs6
 obtain ⟨CY0, CY1, CY2, CY3, CY4, CY5⟩ := CY.out.cs6
 have HMP := Lib.hid hmp; clear hmp hop
 have hlk2 : (Instr.lookup 56 (.map (some bm)) (.string op) true).run Tryz.prog _ = .ok (.tuple #[.agg #[.bool wh, .func (.func F) #[] (cp g1 g2 g3 g4 g5 g6)], .bool true]) _ := run_look HMP.out (HLK.out g1 g2 g3 g4 g5 g6)
 obtain ⟨wo, hwo⟩ : ∃ wo, wo = w3.alloc (.cells #[.bool wh, .func (.func F) #[] (cp g1 g2 g3 g4 g5 g6)] 54) := ⟨_, rfl⟩
 have hbl : Below w3.heap.size w3 wo := by rw [hwo]; exact bel_alloc (bel_refl _) _
 have CO : Blk wo w3.heap.size 54 #[.bool wh, .func (.func F) #[] (cp g1 g2 g3 g4 g5 g6)] := by rw [hwo]; exact Blk.new _ _ _
 replace CO := Lib.hid CO
 go_upto_region 6 with fail
 rw [← hwo]
 clear hwo hlk2
 replace R1 := hmR R1 hbl
 replace R2 := hmR R2 hbl
 replace R3 := hmR R3 hbl
 replace R4 := hmR R4 hbl
 replace CX := hmB CX hbl
 replace CY := hmB CY hbl
 replace RES := hmB RES hbl
 replace HW := hmW HW hbl; clear hbl
 clear CX0 CX1 CX2 CX3 CX4 CX5 CY0 CY1 CY2 CY3 CY4 CY5
 obtain ⟨CX0, CX1, CX2, CX3, CX4, CX5⟩ := CX.out.cs6
 obtain ⟨CY0, CY1, CY2, CY3, CY4, CY5⟩ := CY.out.cs6
 clear CX0 CX1 CX2 CX3 CX4 CX5 CY0 CY1 CY2 CY3 CY4 CY5
 obtain ⟨CX0, CX1, CX2, CX3, CX4, CX5⟩ := CX.out.cs6
 obtain ⟨CY0, CY1, CY2, CY3, CY4, CY5⟩ := CY.out.cs6
 obtain ⟨CO0, CO1⟩ := CO.out.cs2
 go_wp2_with fail
 refine (KX.out _).mono ?_
 rintro e wv ⟨rfl, hwv⟩
 obtain rfl := hwv.symm
 clear hwv
 obtain ⟨d0, d1, d2, d3, d4, d5⟩ := RES.out.cs6
 obtain ⟨f0, f1, f2, f3, f4, f5⟩ := RES.out.fz6
 go_wp2
 exact bodyPost_ret (results_row_tmp rfl _ _ (w.heap.size + 2) 27 _ (0, 0) _ _ rfl rfl (RES.out.put6 _ _ _ _ _ _) Tryz.underlying27 rfl (by kernel_rfl)) rfl ⟨_, _, rfl, (RdN.set6 RES.out rfl (RdN.none0 _) _ _ _ _ _ _), (RdN.set6 RES.out rfl (RdN.none0 _) _ _ _ _ _ _), (bel_set6 (g := w.heap.size + 2) HW.out (by omega) _ _ _ _ _ _)⟩
theorem kBin_text (op : ByteArray) (wh : Bool) (F : FuncId) (cp : Nat → Nat → Nat → Nat → Nat → Nat → Array Value) (ba bb ga gb : Bool) (sa sb : ByteArray) (A B A' B' : Option Addr) (c d c' d' : Nat) (xs ys xs' ys' : List Nat) (t : Int) (w : World) (h1 : RdL w A xs) (h2 : RdL w B ys) (h3 : RdL w A' xs') (h4 : RdL w B' ys') (m1 : Lim xs) (m2 : Lim ys) (m3 : Lim xs') (m4 : Lim ys') (l1 : xs.length ≤ 18) (l2 : ys.length ≤ 18) (l3 : xs'.length ≤ 18) (l4 : ys'.length ≤ 18) (k1 : xs.length ≤ c) (k2 : ys.length ≤ d) (k3 : xs'.length ≤ c') (k4 : ys'.length ≤ d') (hr1 : rightV 2 ba sa ga xs ys = true) (hr2 : rightV 2 bb sb gb xs' ys' = true) (hb : basB t = true) (n1 : op ≠ ⟨#[38, 38]⟩) (n2 : op ≠ ⟨#[124, 124]⟩) (hL : ∀ g1 g2 g3 g4 g5 g6, lookL .string (.string op) (opsTab g1 g2 g3 g4 g5 g6) = some (some (.agg #[.bool wh, .func (.func F) #[] (cp g1 g2 g3 g4 g5 g6)]))) (ho : op.toList = [43]) (ht : wordsB t = true) (z1 : sa.size ≤ 1000) (z2 : sb.size ≤ 1000) (hx : ¬ 200 < sa.size + sb.size) :
 Calls Tryz.prog 6 #[.string op, .agg #[.int .i64 2, .bool ba, .string sa, .bool ga, .slice A xs.length c, .slice B ys.length d], .agg #[.int .i64 2, .bool bb, .string sb, .bool gb, .slice A' xs'.length c', .slice B' ys'.length d'], .int .i64 t] w (RetV 2 false (sa ++ sb) noQ 0 w) := by
 have R1 := Lib.hid h1; clear h1
 have R2 := Lib.hid h2; clear h2
 have R3 := Lib.hid h3; clear h3
 have R4 := Lib.hid h4; clear h4
 have M4 := Lib.hid (And.intro m1 (And.intro m2 (And.intro m3 m4))); clear m1 m2 m3 m4
 have L4 := Lib.hid (And.intro l1 (And.intro l2 (And.intro l3 l4))); clear l1 l2 l3 l4
 have K4 := Lib.hid (And.intro k1 (And.intro k2 (And.intro k3 k4))); clear k1 k2 k3 k4
 obtain ⟨s1, u1⟩ := str_no (l := [38, 38]) (t := ⟨#[38, 38]⟩) (by rw [ByteArray.toList_eq]) n1
 obtain ⟨s2, u2⟩ := str_no (l := [124, 124]) (t := ⟨#[124, 124]⟩) (by rw [ByteArray.toList_eq]) n2
 have HSN := Lib.hid (And.intro n1 n2); clear n1 n2
 have HR1 := Lib.hid hr1; clear hr1
 have HR2 := Lib.hid hr2; clear hr2
 have u3 : (op.toList == [43]) = true := by simpa using ho
 have u4 : op.toList = [43] := ho
 clear ho
 have KB := Lib.hid (fun W => kBas_is t W hb); clear hb
 have HLK := Lib.hid hL; clear hL
 have KX := Lib.hid (fun W => kText_is t W ht); clear ht
 have hw9 : IntKind.i64.wrap ((sa.size : Int) + (sb.size : Int)) = (sa.size : Int) + (sb.size : Int) := by rw [IntKind.wrap_i64]; omega
 have hgt : ¬ (200 : Int) < (sa.size : Int) + (sb.size : Int) := by omega
 have HS9 := Lib.hid (And.intro z1 (And.intro z2 hx)); clear z1 z2 hx
 obtain ⟨wa, hwa⟩ : ∃ wa, wa = ((w.alloc (.cells #[.int .i64 2, .bool ba, .string sa, .bool ga, .slice A xs.length c, .slice B ys.length d] 27)).alloc (.cells #[.int .i64 2, .bool bb, .string sb, .bool gb, .slice A' xs'.length c', .slice B' ys'.length d'] 27)).alloc (.cells #[.int .i64 0, .bool false, .string ⟨#[]⟩, .bool false, .slice none 0 0, .slice none 0 0] 27) := ⟨_, rfl⟩
 obtain ⟨hbl, CX, CY, RES⟩ := kal3 hwa
 replace R1 := hmR R1 hbl
 replace R2 := hmR R2 hbl
 replace R3 := hmR R3 hbl
 replace R4 := hmR R4 hbl
 have HW := Lib.hid hbl; clear hbl
 replace CX := Lib.hid CX
 replace CY := Lib.hid CY
 replace RES := Lib.hid RES
 go_enter Tryz.func6, Tryz.ntmps6
 go_wp2_with fail
 rw [← hwa]
 clear hwa
 obtain ⟨CX0, CX1, CX2, CX3, CX4, CX5⟩ := CX.out.cs6
 obtain ⟨CY0, CY1, CY2, CY3, CY4, CY5⟩ := CY.out.cs6
 refine (kRight_any 2 ba sa ga A B c d xs ys _ R1.out R2.out M4.out.1 M4.out.2.1 L4.out.1 L4.out.2.1 K4.out.1 K4.out.2.1).mono ?_
 rintro e w1 ⟨rfl, hbl⟩
 replace R1 := hmR R1 hbl
 replace R2 := hmR R2 hbl
 replace R3 := hmR R3 hbl
 replace R4 := hmR R4 hbl
 replace CX := hmB CX hbl
 replace CY := hmB CY hbl
 replace RES := hmB RES hbl
 replace HW := hmW HW hbl; clear hbl
 clear CX0 CX1 CX2 CX3 CX4 CX5 CY0 CY1 CY2 CY3 CY4 CY5
 obtain ⟨CX0, CX1, CX2, CX3, CX4, CX5⟩ := CX.out.cs6
 obtain ⟨CY0, CY1, CY2, CY3, CY4, CY5⟩ := CY.out.cs6
 rw [HR1.out]
 go_wp2_with fail
 refine (kRight_any 2 bb sb gb A' B' c' d' xs' ys' _ R3.out R4.out M4.out.2.2.1 M4.out.2.2.2 L4.out.2.2.1 L4.out.2.2.2 K4.out.2.2.1 K4.out.2.2.2).mono ?_
 rintro e w2 ⟨rfl, hbl⟩
 replace R1 := hmR R1 hbl
 replace R2 := hmR R2 hbl
 replace R3 := hmR R3 hbl
 replace R4 := hmR R4 hbl
 replace CX := hmB CX hbl
 replace CY := hmB CY hbl
 replace RES := hmB RES hbl
 replace HW := hmW HW hbl; clear hbl
 clear CX0 CX1 CX2 CX3 CX4 CX5 CY0 CY1 CY2 CY3 CY4 CY5
 obtain ⟨CX0, CX1, CX2, CX3, CX4, CX5⟩ := CX.out.cs6
 obtain ⟨CY0, CY1, CY2, CY3, CY4, CY5⟩ := CY.out.cs6
 rw [HR2.out]
 go_wp2_with fail
 refine (KB.out _).mono ?_
 rintro e wv ⟨rfl, hwv⟩
 obtain rfl := hwv.symm
 clear hwv
 go_wp2_with fail
 refine (operators_at _).mono ?_
 rintro e w3 ⟨bm, g1, g2, g3, g4, g5, g6, rfl, hmp, hop, hbl⟩
 replace R1 := hmR R1 hbl
 replace R2 := hmR R2 hbl
 replace R3 := hmR R3 hbl
 replace R4 := hmR R4 hbl
 replace CX := hmB CX hbl
 replace CY := hmB CY hbl
 replace RES := hmB RES hbl
 replace HW := hmW HW hbl; clear hbl
 clear CX0 CX1 CX2 CX3 CX4 CX5 CY0 CY1 CY2 CY3 CY4 CY5
 obtain ⟨CX0, CX1, CX2, CX3, CX4, CX5⟩ := CX.out.cs6
 obtain ⟨CY0, CY1, CY2, CY3, CY4, CY5⟩ := CY.out.cs6
 have HMP := Lib.hid hmp; clear hmp hop
 have hlk2 : (Instr.lookup 56 (.map (some bm)) (.string op) true).run Tryz.prog _ = .ok (.tuple #[.agg #[.bool wh, .func (.func F) #[] (cp g1 g2 g3 g4 g5 g6)], .bool true]) _ := run_look HMP.out (HLK.out g1 g2 g3 g4 g5 g6)
 obtain ⟨wo, hwo⟩ : ∃ wo, wo = w3.alloc (.cells #[.bool wh, .func (.func F) #[] (cp g1 g2 g3 g4 g5 g6)] 54) := ⟨_, rfl⟩
 have hbl : Below w3.heap.size w3 wo := by rw [hwo]; exact bel_alloc (bel_refl _) _
 have CO : Blk wo w3.heap.size 54 #[.bool wh, .func (.func F) #[] (cp g1 g2 g3 g4 g5 g6)] := by rw [hwo]; exact Blk.new _ _ _
 replace CO := Lib.hid CO
 go_upto_region 6 with fail
 rw [← hwo]
 clear hwo hlk2
 replace R1 := hmR R1 hbl
 replace R2 := hmR R2 hbl
 replace R3 := hmR R3 hbl
 replace R4 := hmR R4 hbl
 replace CX := hmB CX hbl
 replace CY := hmB CY hbl
 replace RES := hmB RES hbl
 replace HW := hmW HW hbl; clear hbl
 clear CX0 CX1 CX2 CX3 CX4 CX5 CY0 CY1 CY2 CY3 CY4 CY5
 obtain ⟨CX0, CX1, CX2, CX3, CX4, CX5⟩ := CX.out.cs6
 obtain ⟨CY0, CY1, CY2, CY3, CY4, CY5⟩ := CY.out.cs6
 clear CX0 CX1 CX2 CX3 CX4 CX5 CY0 CY1 CY2 CY3 CY4 CY5
 obtain ⟨CX0, CX1, CX2, CX3, CX4, CX5⟩ := CX.out.cs6
 obtain ⟨CY0, CY1, CY2, CY3, CY4, CY5⟩ := CY.out.cs6
 obtain ⟨CO0, CO1⟩ := CO.out.cs2
 go_wp2_with fail
 refine (KX.out _).mono ?_
 rintro e wv ⟨rfl, hwv⟩
 obtain rfl := hwv.symm
 clear hwv
 obtain ⟨d0, d1, d2, d3, d4, d5⟩ := RES.out.cs6
 obtain ⟨f0, f1, f2, f3, f4, f5⟩ := RES.out.fz6
 go_wp2
 exact bodyPost_ret (results_row_tmp rfl _ _ (w.heap.size + 2) 27 _ (0, 0) _ _ rfl rfl (RES.out.put6 _ _ _ _ _ _) Tryz.underlying27 rfl (by kernel_rfl)) rfl ⟨_, _, rfl, (RdN.set6 RES.out rfl (RdN.none0 _) _ _ _ _ _ _), (RdN.set6 RES.out rfl (RdN.none0 _) _ _ _ _ _ _), (bel_set6 (g := w.heap.size + 2) HW.out (by omega) _ _ _ _ _ _)⟩
theorem kBin_type (op : ByteArray) (wh : Bool) (F : FuncId) (cp : Nat → Nat → Nat → Nat → Nat → Nat → Array Value) (ka kb : Int) (ba bb ga gb : Bool) (sa sb : ByteArray) (A B A' B' : Option Addr) (c d c' d' : Nat) (xs ys xs' ys' : List Nat) (t : Int) (w : World) (h1 : RdL w A xs) (h2 : RdL w B ys) (h3 : RdL w A' xs') (h4 : RdL w B' ys') (m1 : Lim xs) (m2 : Lim ys) (m3 : Lim xs') (m4 : Lim ys') (l1 : xs.length ≤ 18) (l2 : ys.length ≤ 18) (l3 : xs'.length ≤ 18) (l4 : ys'.length ≤ 18) (k1 : xs.length ≤ c) (k2 : ys.length ≤ d) (k3 : xs'.length ≤ c') (k4 : ys'.length ≤ d') (hr1 : rightV ka ba sa ga xs ys = true) (hr2 : rightV kb bb sb gb xs' ys' = true) (hb : basB t = true) (n1 : op ≠ ⟨#[38, 38]⟩) (n2 : op ≠ ⟨#[124, 124]⟩) (hL : ∀ g1 g2 g3 g4 g5 g6, lookL .string (.string op) (opsTab g1 g2 g3 g4 g5 g6) = some (some (.agg #[.bool wh, .func (.func F) #[] (cp g1 g2 g3 g4 g5 g6)]))) (hx : ¬ (ka = 3 ∧ kb = 3 ∧ numB t = true)) (hy : ¬ (op.toList = [43] ∧ ka = 2 ∧ kb = 2 ∧ wordsB t = true)) :
 Calls Tryz.prog 6 #[.string op, .agg #[.int .i64 ka, .bool ba, .string sa, .bool ga, .slice A xs.length c, .slice B ys.length d], .agg #[.int .i64 kb, .bool bb, .string sb, .bool gb, .slice A' xs'.length c', .slice B' ys'.length d'], .int .i64 t] w (RetV 0 false ⟨#[]⟩ noQ 11 w) := by
 have R1 := Lib.hid h1; clear h1
 have R2 := Lib.hid h2; clear h2
 have R3 := Lib.hid h3; clear h3
 have R4 := Lib.hid h4; clear h4
 have M4 := Lib.hid (And.intro m1 (And.intro m2 (And.intro m3 m4))); clear m1 m2 m3 m4
 have L4 := Lib.hid (And.intro l1 (And.intro l2 (And.intro l3 l4))); clear l1 l2 l3 l4
 have K4 := Lib.hid (And.intro k1 (And.intro k2 (And.intro k3 k4))); clear k1 k2 k3 k4
 obtain ⟨s1, u1⟩ := str_no (l := [38, 38]) (t := ⟨#[38, 38]⟩) (by rw [ByteArray.toList_eq]) n1
 obtain ⟨s2, u2⟩ := str_no (l := [124, 124]) (t := ⟨#[124, 124]⟩) (by rw [ByteArray.toList_eq]) n2
 have HSN := Lib.hid (And.intro n1 n2); clear n1 n2
 have HR1 := Lib.hid hr1; clear hr1
 have HR2 := Lib.hid hr2; clear hr2
 have KB := Lib.hid (fun W => kBas_is t W hb); clear hb
 have HLK := Lib.hid hL; clear hL
 obtain ⟨v, hv⟩ : ∃ v, numB t = v := ⟨_, rfl⟩
 have KN := Lib.hid (fun W => kNum_is t W hv)
 rw [hv] at hx; clear hv
 obtain ⟨u, hu⟩ : ∃ u, wordsB t = u := ⟨_, rfl⟩
 have KX := Lib.hid (fun W => kText_is t W hu)
 rw [hu] at hy; clear hu
 have HX := Lib.hid hx; clear hx
 have HY := Lib.hid hy; clear hy
 obtain ⟨wa, hwa⟩ : ∃ wa, wa = ((w.alloc (.cells #[.int .i64 ka, .bool ba, .string sa, .bool ga, .slice A xs.length c, .slice B ys.length d] 27)).alloc (.cells #[.int .i64 kb, .bool bb, .string sb, .bool gb, .slice A' xs'.length c', .slice B' ys'.length d'] 27)).alloc (.cells #[.int .i64 0, .bool false, .string ⟨#[]⟩, .bool false, .slice none 0 0, .slice none 0 0] 27) := ⟨_, rfl⟩
 obtain ⟨hbl, CX, CY, RES⟩ := kal3 hwa
 replace R1 := hmR R1 hbl
 replace R2 := hmR R2 hbl
 replace R3 := hmR R3 hbl
 replace R4 := hmR R4 hbl
 have HW := Lib.hid hbl; clear hbl
 replace CX := Lib.hid CX
 replace CY := Lib.hid CY
 replace RES := Lib.hid RES
 go_enter Tryz.func6, Tryz.ntmps6
 go_wp2_with fail
 rw [← hwa]
 clear hwa
 obtain ⟨CX0, CX1, CX2, CX3, CX4, CX5⟩ := CX.out.cs6
 obtain ⟨CY0, CY1, CY2, CY3, CY4, CY5⟩ := CY.out.cs6
 refine (kRight_any ka ba sa ga A B c d xs ys _ R1.out R2.out M4.out.1 M4.out.2.1 L4.out.1 L4.out.2.1 K4.out.1 K4.out.2.1).mono ?_
 rintro e w1 ⟨rfl, hbl⟩
 replace R1 := hmR R1 hbl
 replace R2 := hmR R2 hbl
 replace R3 := hmR R3 hbl
 replace R4 := hmR R4 hbl
 replace CX := hmB CX hbl
 replace CY := hmB CY hbl
 replace RES := hmB RES hbl
 replace HW := hmW HW hbl; clear hbl
 clear CX0 CX1 CX2 CX3 CX4 CX5 CY0 CY1 CY2 CY3 CY4 CY5
 obtain ⟨CX0, CX1, CX2, CX3, CX4, CX5⟩ := CX.out.cs6
 obtain ⟨CY0, CY1, CY2, CY3, CY4, CY5⟩ := CY.out.cs6
 rw [HR1.out]
 go_wp2_with fail
 refine (kRight_any kb bb sb gb A' B' c' d' xs' ys' _ R3.out R4.out M4.out.2.2.1 M4.out.2.2.2 L4.out.2.2.1 L4.out.2.2.2 K4.out.2.2.1 K4.out.2.2.2).mono ?_
 rintro e w2 ⟨rfl, hbl⟩
 replace R1 := hmR R1 hbl
 replace R2 := hmR R2 hbl
 replace R3 := hmR R3 hbl
 replace R4 := hmR R4 hbl
 replace CX := hmB CX hbl
 replace CY := hmB CY hbl
 replace RES := hmB RES hbl
 replace HW := hmW HW hbl; clear hbl
 clear CX0 CX1 CX2 CX3 CX4 CX5 CY0 CY1 CY2 CY3 CY4 CY5
 obtain ⟨CX0, CX1, CX2, CX3, CX4, CX5⟩ := CX.out.cs6
 obtain ⟨CY0, CY1, CY2, CY3, CY4, CY5⟩ := CY.out.cs6
 rw [HR2.out]
 go_wp2_with fail
 refine (KB.out _).mono ?_
 rintro e wv ⟨rfl, hwv⟩
 obtain rfl := hwv.symm
 clear hwv
 go_wp2_with fail
 refine (operators_at _).mono ?_
 rintro e w3 ⟨bm, g1, g2, g3, g4, g5, g6, rfl, hmp, hop, hbl⟩
 replace R1 := hmR R1 hbl
 replace R2 := hmR R2 hbl
 replace R3 := hmR R3 hbl
 replace R4 := hmR R4 hbl
 replace CX := hmB CX hbl
 replace CY := hmB CY hbl
 replace RES := hmB RES hbl
 replace HW := hmW HW hbl; clear hbl
 clear CX0 CX1 CX2 CX3 CX4 CX5 CY0 CY1 CY2 CY3 CY4 CY5
 obtain ⟨CX0, CX1, CX2, CX3, CX4, CX5⟩ := CX.out.cs6
 obtain ⟨CY0, CY1, CY2, CY3, CY4, CY5⟩ := CY.out.cs6
 have HMP := Lib.hid hmp; clear hmp hop
 have hlk2 : (Instr.lookup 56 (.map (some bm)) (.string op) true).run Tryz.prog _ = .ok (.tuple #[.agg #[.bool wh, .func (.func F) #[] (cp g1 g2 g3 g4 g5 g6)], .bool true]) _ := run_look HMP.out (HLK.out g1 g2 g3 g4 g5 g6)
 obtain ⟨wo, hwo⟩ : ∃ wo, wo = w3.alloc (.cells #[.bool wh, .func (.func F) #[] (cp g1 g2 g3 g4 g5 g6)] 54) := ⟨_, rfl⟩
 have hbl : Below w3.heap.size w3 wo := by rw [hwo]; exact bel_alloc (bel_refl _) _
 have CO : Blk wo w3.heap.size 54 #[.bool wh, .func (.func F) #[] (cp g1 g2 g3 g4 g5 g6)] := by rw [hwo]; exact Blk.new _ _ _
 replace CO := Lib.hid CO
 go_upto_region 6 with fail
 rw [← hwo]
 clear hwo hlk2
 replace R1 := hmR R1 hbl
 replace R2 := hmR R2 hbl
 replace R3 := hmR R3 hbl
 replace R4 := hmR R4 hbl
 replace CX := hmB CX hbl
 replace CY := hmB CY hbl
 replace RES := hmB RES hbl
 replace HW := hmW HW hbl; clear hbl
 clear CX0 CX1 CX2 CX3 CX4 CX5 CY0 CY1 CY2 CY3 CY4 CY5
 obtain ⟨CX0, CX1, CX2, CX3, CX4, CX5⟩ := CX.out.cs6
 obtain ⟨CY0, CY1, CY2, CY3, CY4, CY5⟩ := CY.out.cs6
 clear CX0 CX1 CX2 CX3 CX4 CX5 CY0 CY1 CY2 CY3 CY4 CY5
 obtain ⟨CX0, CX1, CX2, CX3, CX4, CX5⟩ := CX.out.cs6
 obtain ⟨CY0, CY1, CY2, CY3, CY4, CY5⟩ := CY.out.cs6
 obtain ⟨CO0, CO1⟩ := CO.out.cs2
 rcases str_or op [43] with ⟨p1, p2⟩ | ⟨p1, p2⟩
 · have hka : ka = 2 ∨ ((ka == 2) = false ∧ ¬ ka = 2 ∧ (ka != 2) = true) := by by_cases h : ka = 2 <;> simp [h]
   rcases hka with rfl | ⟨a4, a5, a6⟩
   · have hkb : kb = 2 ∨ ((kb == 2) = false ∧ ¬ kb = 2 ∧ (kb != 2) = true) := by by_cases h : kb = 2 <;> simp [h]
     rcases hkb with rfl | ⟨b4, b5, b6⟩
     · obtain rfl : u = false := by have h := HY.out; simpa [p2] using h
       go_wp2_with fail
       refine (KX.out _).mono ?_
       rintro e wv ⟨rfl, hwv⟩
       obtain rfl := hwv.symm
       clear hwv
       obtain ⟨d0, d1, d2, d3, d4, d5⟩ := RES.out.cs6
       obtain ⟨f0, f1, f2, f3, f4, f5⟩ := RES.out.fz6
       go_wp2
       exact bodyPost_ret (results_row_tmp rfl _ _ (w.heap.size + 2) 27 _ (0, 0) _ _ rfl rfl (RES.out.put6 _ _ _ _ _ _) Tryz.underlying27 rfl (by kernel_rfl)) rfl ⟨_, _, rfl, (RdN.set6 RES.out rfl (RdN.none0 _) _ _ _ _ _ _), (RdN.set6 RES.out rfl (RdN.none0 _) _ _ _ _ _ _), (bel_set6 (g := w.heap.size + 2) HW.out (by omega) _ _ _ _ _ _)⟩
     · obtain ⟨d0, d1, d2, d3, d4, d5⟩ := RES.out.cs6
       obtain ⟨f0, f1, f2, f3, f4, f5⟩ := RES.out.fz6
       go_wp2
       exact bodyPost_ret (results_row_tmp rfl _ _ (w.heap.size + 2) 27 _ (0, 0) _ _ rfl rfl (RES.out.put6 _ _ _ _ _ _) Tryz.underlying27 rfl (by kernel_rfl)) rfl ⟨_, _, rfl, (RdN.set6 RES.out rfl (RdN.none0 _) _ _ _ _ _ _), (RdN.set6 RES.out rfl (RdN.none0 _) _ _ _ _ _ _), (bel_set6 (g := w.heap.size + 2) HW.out (by omega) _ _ _ _ _ _)⟩
   · have hka : ka = 3 ∨ ((ka == 3) = false ∧ ¬ ka = 3 ∧ (ka != 3) = true) := by by_cases h : ka = 3 <;> simp [h]
     rcases hka with rfl | ⟨a1, a2, a3⟩
     · have hkb : kb = 3 ∨ ((kb == 3) = false ∧ ¬ kb = 3 ∧ (kb != 3) = true) := by by_cases h : kb = 3 <;> simp [h]
       rcases hkb with rfl | ⟨b1, b2, b3⟩
       · obtain rfl : v = false := by simpa using HX.out
         go_wp2_with fail
         refine (KN.out _).mono ?_
         rintro e wv ⟨rfl, hwv⟩
         obtain rfl := hwv.symm
         clear hwv
         obtain ⟨d0, d1, d2, d3, d4, d5⟩ := RES.out.cs6
         obtain ⟨f0, f1, f2, f3, f4, f5⟩ := RES.out.fz6
         go_wp2
         exact bodyPost_ret (results_row_tmp rfl _ _ (w.heap.size + 2) 27 _ (0, 0) _ _ rfl rfl (RES.out.put6 _ _ _ _ _ _) Tryz.underlying27 rfl (by kernel_rfl)) rfl ⟨_, _, rfl, (RdN.set6 RES.out rfl (RdN.none0 _) _ _ _ _ _ _), (RdN.set6 RES.out rfl (RdN.none0 _) _ _ _ _ _ _), (bel_set6 (g := w.heap.size + 2) HW.out (by omega) _ _ _ _ _ _)⟩
       · obtain ⟨d0, d1, d2, d3, d4, d5⟩ := RES.out.cs6
         obtain ⟨f0, f1, f2, f3, f4, f5⟩ := RES.out.fz6
         go_wp2
         exact bodyPost_ret (results_row_tmp rfl _ _ (w.heap.size + 2) 27 _ (0, 0) _ _ rfl rfl (RES.out.put6 _ _ _ _ _ _) Tryz.underlying27 rfl (by kernel_rfl)) rfl ⟨_, _, rfl, (RdN.set6 RES.out rfl (RdN.none0 _) _ _ _ _ _ _), (RdN.set6 RES.out rfl (RdN.none0 _) _ _ _ _ _ _), (bel_set6 (g := w.heap.size + 2) HW.out (by omega) _ _ _ _ _ _)⟩
     · obtain ⟨d0, d1, d2, d3, d4, d5⟩ := RES.out.cs6
       obtain ⟨f0, f1, f2, f3, f4, f5⟩ := RES.out.fz6
       go_wp2
       exact bodyPost_ret (results_row_tmp rfl _ _ (w.heap.size + 2) 27 _ (0, 0) _ _ rfl rfl (RES.out.put6 _ _ _ _ _ _) Tryz.underlying27 rfl (by kernel_rfl)) rfl ⟨_, _, rfl, (RdN.set6 RES.out rfl (RdN.none0 _) _ _ _ _ _ _), (RdN.set6 RES.out rfl (RdN.none0 _) _ _ _ _ _ _), (bel_set6 (g := w.heap.size + 2) HW.out (by omega) _ _ _ _ _ _)⟩
 · have hka : ka = 3 ∨ ((ka == 3) = false ∧ ¬ ka = 3 ∧ (ka != 3) = true) := by by_cases h : ka = 3 <;> simp [h]
   rcases hka with rfl | ⟨a1, a2, a3⟩
   · have hkb : kb = 3 ∨ ((kb == 3) = false ∧ ¬ kb = 3 ∧ (kb != 3) = true) := by by_cases h : kb = 3 <;> simp [h]
     rcases hkb with rfl | ⟨b1, b2, b3⟩
     · obtain rfl : v = false := by simpa using HX.out
       go_wp2_with fail
       refine (KN.out _).mono ?_
       rintro e wv ⟨rfl, hwv⟩
       obtain rfl := hwv.symm
       clear hwv
       obtain ⟨d0, d1, d2, d3, d4, d5⟩ := RES.out.cs6
       obtain ⟨f0, f1, f2, f3, f4, f5⟩ := RES.out.fz6
       go_wp2
       exact bodyPost_ret (results_row_tmp rfl _ _ (w.heap.size + 2) 27 _ (0, 0) _ _ rfl rfl (RES.out.put6 _ _ _ _ _ _) Tryz.underlying27 rfl (by kernel_rfl)) rfl ⟨_, _, rfl, (RdN.set6 RES.out rfl (RdN.none0 _) _ _ _ _ _ _), (RdN.set6 RES.out rfl (RdN.none0 _) _ _ _ _ _ _), (bel_set6 (g := w.heap.size + 2) HW.out (by omega) _ _ _ _ _ _)⟩
     · obtain ⟨d0, d1, d2, d3, d4, d5⟩ := RES.out.cs6
       obtain ⟨f0, f1, f2, f3, f4, f5⟩ := RES.out.fz6
       go_wp2
       exact bodyPost_ret (results_row_tmp rfl _ _ (w.heap.size + 2) 27 _ (0, 0) _ _ rfl rfl (RES.out.put6 _ _ _ _ _ _) Tryz.underlying27 rfl (by kernel_rfl)) rfl ⟨_, _, rfl, (RdN.set6 RES.out rfl (RdN.none0 _) _ _ _ _ _ _), (RdN.set6 RES.out rfl (RdN.none0 _) _ _ _ _ _ _), (bel_set6 (g := w.heap.size + 2) HW.out (by omega) _ _ _ _ _ _)⟩
   · obtain ⟨d0, d1, d2, d3, d4, d5⟩ := RES.out.cs6
     obtain ⟨f0, f1, f2, f3, f4, f5⟩ := RES.out.fz6
     go_wp2
     exact bodyPost_ret (results_row_tmp rfl _ _ (w.heap.size + 2) 27 _ (0, 0) _ _ rfl rfl (RES.out.put6 _ _ _ _ _ _) Tryz.underlying27 rfl (by kernel_rfl)) rfl ⟨_, _, rfl, (RdN.set6 RES.out rfl (RdN.none0 _) _ _ _ _ _ _), (RdN.set6 RES.out rfl (RdN.none0 _) _ _ _ _ _ _), (bel_set6 (g := w.heap.size + 2) HW.out (by omega) _ _ _ _ _ _)⟩
theorem kBin_frac (op : ByteArray) (F : FuncId) (cp : Nat → Nat → Nat → Nat → Nat → Nat → Array Value) (t : Int) (a b : Q) (A B A' B' : Option Addr) (c d c' d' : Nat) (w : World) (h1 : RdL w A (limbs a.n)) (h2 : RdL w B (limbs a.d)) (h3 : RdL w A' (limbs b.n)) (h4 : RdL w B' (limbs b.d)) (k1 : (limbs a.n).length ≤ c) (k2 : (limbs a.d).length ≤ d) (k3 : (limbs b.n).length ≤ c') (k4 : (limbs b.d).length ≤ d') (ha : a.n < Top ∧ a.d < Top ∧ QR a) (hb : b.n < Top ∧ b.d < Top ∧ QR b) (n1 : op ≠ ⟨#[38, 38]⟩) (n2 : op ≠ ⟨#[124, 124]⟩) (hL : ∀ g1 g2 g3 g4 g5 g6, lookL .string (.string op) (opsTab g1 g2 g3 g4 g5 g6) = some (some (.agg #[.bool true, .func (.func F) #[] (cp g1 g2 g3 g4 g5 g6)]))) (hbas : basB t = true) (hnum : numB t = true) (hx : ¬ (a.d = 1 ∧ b.d = 1 ∧ wholeB t = true)) :
 Calls Tryz.prog 6 #[.string op, .agg #[.int .i64 3, .bool false, .string ⟨#[]⟩, .bool a.s, .slice A (limbs a.n).length c, .slice B (limbs a.d).length d], .agg #[.int .i64 3, .bool false, .string ⟨#[]⟩, .bool b.s, .slice A' (limbs b.n).length c', .slice B' (limbs b.d).length d'], .int .i64 t] w (RetV 0 false ⟨#[]⟩ noQ 11 w) := by
 have R1 := Lib.hid h1; clear h1
 have R2 := Lib.hid h2; clear h2
 have R3 := Lib.hid h3; clear h3
 have R4 := Lib.hid h4; clear h4
 have K4 := Lib.hid (And.intro k1 (And.intro k2 (And.intro k3 k4))); clear k1 k2 k3 k4
 have LA := Lib.hid ha; clear ha
 have LB := Lib.hid hb; clear hb
 have HLK := Lib.hid hL; clear hL
 have KN := Lib.hid (fun W => kNum_is t W hnum); clear hnum
 have KB := Lib.hid (fun W => kBas_is t W hbas); clear hbas
 obtain ⟨v, hv⟩ : ∃ v, wholeB t = v := ⟨_, rfl⟩
 have KW := Lib.hid (fun W => kWhole_is t W hv)
 rw [hv] at hx; clear hv
 have HX := Lib.hid hx; clear hx
 obtain ⟨s1, u1⟩ := str_no (l := [38, 38]) (t := ⟨#[38, 38]⟩) (by rw [ByteArray.toList_eq]) n1
 obtain ⟨s2, u2⟩ := str_no (l := [124, 124]) (t := ⟨#[124, 124]⟩) (by rw [ByteArray.toList_eq]) n2
 have HSN := Lib.hid (And.intro n1 n2); clear n1 n2
 rcases str_or op [43] with ⟨p1, p2⟩ | ⟨p1, p2⟩
 all_goals
  obtain ⟨wa, hwa⟩ : ∃ wa, wa = ((w.alloc (.cells #[.int .i64 3, .bool false, .string ⟨#[]⟩, .bool a.s, .slice A (limbs a.n).length c, .slice B (limbs a.d).length d] 27)).alloc (.cells #[.int .i64 3, .bool false, .string ⟨#[]⟩, .bool b.s, .slice A' (limbs b.n).length c', .slice B' (limbs b.d).length d'] 27)).alloc (.cells #[.int .i64 0, .bool false, .string ⟨#[]⟩, .bool false, .slice none 0 0, .slice none 0 0] 27) := ⟨_, rfl⟩
  obtain ⟨hbl, CX, CY, RES⟩ := kal3 hwa
  replace R1 := hmR R1 hbl
  replace R2 := hmR R2 hbl
  replace R3 := hmR R3 hbl
  replace R4 := hmR R4 hbl
  have HW := Lib.hid hbl; clear hbl
  replace CX := Lib.hid CX
  replace CY := Lib.hid CY
  replace RES := Lib.hid RES
  go_enter Tryz.func6, Tryz.ntmps6
  go_wp2_with fail
  rw [← hwa]
  clear hwa
  obtain ⟨CX0, CX1, CX2, CX3, CX4, CX5⟩ := CX.out.cs6
  obtain ⟨CY0, CY1, CY2, CY3, CY4, CY5⟩ := CY.out.cs6
  refine (kRight_any 3 false ⟨#[]⟩ a.s A B c d (limbs a.n) (limbs a.d) _ R1.out R2.out (limbs_lim _) (limbs_lim _) (len18 LA.out.1) (len18 LA.out.2.1) K4.out.1 K4.out.2.1).mono ?_
  rintro e w1 ⟨rfl, hbl⟩
  replace R1 := hmR R1 hbl
  replace R2 := hmR R2 hbl
  replace R3 := hmR R3 hbl
  replace R4 := hmR R4 hbl
  replace CX := hmB CX hbl
  replace CY := hmB CY hbl
  replace RES := hmB RES hbl
  replace HW := hmW HW hbl; clear hbl
  clear CX0 CX1 CX2 CX3 CX4 CX5 CY0 CY1 CY2 CY3 CY4 CY5
  obtain ⟨CX0, CX1, CX2, CX3, CX4, CX5⟩ := CX.out.cs6
  obtain ⟨CY0, CY1, CY2, CY3, CY4, CY5⟩ := CY.out.cs6
  rw [rightV_num LA.out.1 LA.out.2.1 LA.out.2.2]
  go_wp2_with fail
  refine (kRight_any 3 false ⟨#[]⟩ b.s A' B' c' d' (limbs b.n) (limbs b.d) _ R3.out R4.out (limbs_lim _) (limbs_lim _) (len18 LB.out.1) (len18 LB.out.2.1) K4.out.2.2.1 K4.out.2.2.2).mono ?_
  rintro e w2 ⟨rfl, hbl⟩
  replace R1 := hmR R1 hbl
  replace R2 := hmR R2 hbl
  replace R3 := hmR R3 hbl
  replace R4 := hmR R4 hbl
  replace CX := hmB CX hbl
  replace CY := hmB CY hbl
  replace RES := hmB RES hbl
  replace HW := hmW HW hbl; clear hbl
  clear CX0 CX1 CX2 CX3 CX4 CX5 CY0 CY1 CY2 CY3 CY4 CY5
  obtain ⟨CX0, CX1, CX2, CX3, CX4, CX5⟩ := CX.out.cs6
  obtain ⟨CY0, CY1, CY2, CY3, CY4, CY5⟩ := CY.out.cs6
  rw [rightV_num LB.out.1 LB.out.2.1 LB.out.2.2]
  go_wp2_with fail
  refine (KB.out _).mono ?_
  rintro e wv ⟨rfl, hwv⟩
  obtain rfl := hwv.symm
  clear hwv
  go_wp2_with fail
  refine (operators_at _).mono ?_
  rintro e w3 ⟨bm, g1, g2, g3, g4, g5, g6, rfl, hmp, hop, hbl⟩
  replace R1 := hmR R1 hbl
  replace R2 := hmR R2 hbl
  replace R3 := hmR R3 hbl
  replace R4 := hmR R4 hbl
  replace CX := hmB CX hbl
  replace CY := hmB CY hbl
  replace RES := hmB RES hbl
  replace HW := hmW HW hbl; clear hbl
  clear CX0 CX1 CX2 CX3 CX4 CX5 CY0 CY1 CY2 CY3 CY4 CY5
  obtain ⟨CX0, CX1, CX2, CX3, CX4, CX5⟩ := CX.out.cs6
  obtain ⟨CY0, CY1, CY2, CY3, CY4, CY5⟩ := CY.out.cs6
  have HMP := Lib.hid hmp; clear hmp hop
  have hlk2 : (Instr.lookup 56 (.map (some bm)) (.string op) true).run Tryz.prog _ = .ok (.tuple #[.agg #[.bool true, .func (.func F) #[] (cp g1 g2 g3 g4 g5 g6)], .bool true]) _ := run_look HMP.out (HLK.out g1 g2 g3 g4 g5 g6)
  obtain ⟨wo, hwo⟩ : ∃ wo, wo = w3.alloc (.cells #[.bool true, .func (.func F) #[] (cp g1 g2 g3 g4 g5 g6)] 54) := ⟨_, rfl⟩
  have hbl : Below w3.heap.size w3 wo := by rw [hwo]; exact bel_alloc (bel_refl _) _
  have CO : Blk wo w3.heap.size 54 #[.bool true, .func (.func F) #[] (cp g1 g2 g3 g4 g5 g6)] := by rw [hwo]; exact Blk.new _ _ _
  replace CO := Lib.hid CO
  go_upto_region 6 with fail
  rw [← hwo]
  clear hwo hlk2
  replace R1 := hmR R1 hbl
  replace R2 := hmR R2 hbl
  replace R3 := hmR R3 hbl
  replace R4 := hmR R4 hbl
  replace CX := hmB CX hbl
  replace CY := hmB CY hbl
  replace RES := hmB RES hbl
  replace HW := hmW HW hbl; clear hbl
  clear CX0 CX1 CX2 CX3 CX4 CX5 CY0 CY1 CY2 CY3 CY4 CY5
  obtain ⟨CX0, CX1, CX2, CX3, CX4, CX5⟩ := CX.out.cs6
  obtain ⟨CY0, CY1, CY2, CY3, CY4, CY5⟩ := CY.out.cs6
  clear CX0 CX1 CX2 CX3 CX4 CX5 CY0 CY1 CY2 CY3 CY4 CY5
  obtain ⟨CX0, CX1, CX2, CX3, CX4, CX5⟩ := CX.out.cs6
  obtain ⟨CY0, CY1, CY2, CY3, CY4, CY5⟩ := CY.out.cs6
  obtain ⟨CO0, CO1⟩ := CO.out.cs2
  go_wp2_with fail
  refine (KN.out _).mono ?_
  rintro e wv ⟨rfl, hwv⟩
  obtain rfl := hwv.symm
  clear hwv
  obtain ⟨u1, hu1⟩ : ∃ u, decide (a.d = 1) = u := ⟨_, rfl⟩
  obtain ⟨u2, hu2⟩ : ∃ u, decide (b.d = 1) = u := ⟨_, rfl⟩
  have HU1 := Lib.hid hu1; clear hu1
  have HU2 := Lib.hid hu2; clear hu2
  go_wp2_with fail
  refine (kIsW_num a A B c d _ R1.out R2.out K4.out.1 K4.out.2.1 LA.out.1 LA.out.2.1).mono ?_
  rintro e w4 ⟨rfl, hbl⟩
  replace R1 := hmR R1 hbl
  replace R2 := hmR R2 hbl
  replace R3 := hmR R3 hbl
  replace R4 := hmR R4 hbl
  replace CX := hmB CX hbl
  replace CY := hmB CY hbl
  replace RES := hmB RES hbl
  replace CO := hmB CO hbl
  replace HW := hmW HW hbl; clear hbl
  clear CX0 CX1 CX2 CX3 CX4 CX5 CY0 CY1 CY2 CY3 CY4 CY5 CO0 CO1
  obtain ⟨CX0, CX1, CX2, CX3, CX4, CX5⟩ := CX.out.cs6
  obtain ⟨CY0, CY1, CY2, CY3, CY4, CY5⟩ := CY.out.cs6
  obtain ⟨CO0, CO1⟩ := CO.out.cs2
  rw [HU1.out]
  cases u1
  · obtain ⟨d0, d1, d2, d3, d4, d5⟩ := RES.out.cs6
    obtain ⟨f0, f1, f2, f3, f4, f5⟩ := RES.out.fz6
    go_wp2
    exact bodyPost_ret (results_row_tmp rfl _ _ (w.heap.size + 2) 27 _ (0, 0) _ _ rfl rfl (RES.out.put6 _ _ _ _ _ _) Tryz.underlying27 rfl (by kernel_rfl)) rfl ⟨_, _, rfl, (RdN.set6 RES.out rfl (RdN.none0 _) _ _ _ _ _ _), (RdN.set6 RES.out rfl (RdN.none0 _) _ _ _ _ _ _), (bel_set6 (g := w.heap.size + 2) HW.out (by omega) _ _ _ _ _ _)⟩
  · go_wp2_with fail
    refine (kIsW_num b A' B' c' d' _ R3.out R4.out K4.out.2.2.1 K4.out.2.2.2 LB.out.1 LB.out.2.1).mono ?_
    rintro e w5 ⟨rfl, hbl⟩
    replace R1 := hmR R1 hbl
    replace R2 := hmR R2 hbl
    replace R3 := hmR R3 hbl
    replace R4 := hmR R4 hbl
    replace CX := hmB CX hbl
    replace CY := hmB CY hbl
    replace RES := hmB RES hbl
    replace CO := hmB CO hbl
    replace HW := hmW HW hbl; clear hbl
    clear CX0 CX1 CX2 CX3 CX4 CX5 CY0 CY1 CY2 CY3 CY4 CY5 CO0 CO1
    obtain ⟨CX0, CX1, CX2, CX3, CX4, CX5⟩ := CX.out.cs6
    obtain ⟨CY0, CY1, CY2, CY3, CY4, CY5⟩ := CY.out.cs6
    obtain ⟨CO0, CO1⟩ := CO.out.cs2
    rw [HU2.out]
    cases u2
    · obtain ⟨d0, d1, d2, d3, d4, d5⟩ := RES.out.cs6
      obtain ⟨f0, f1, f2, f3, f4, f5⟩ := RES.out.fz6
      go_wp2
      exact bodyPost_ret (results_row_tmp rfl _ _ (w.heap.size + 2) 27 _ (0, 0) _ _ rfl rfl (RES.out.put6 _ _ _ _ _ _) Tryz.underlying27 rfl (by kernel_rfl)) rfl ⟨_, _, rfl, (RdN.set6 RES.out rfl (RdN.none0 _) _ _ _ _ _ _), (RdN.set6 RES.out rfl (RdN.none0 _) _ _ _ _ _ _), (bel_set6 (g := w.heap.size + 2) HW.out (by omega) _ _ _ _ _ _)⟩
    · obtain rfl : v = false := by have h := HX.out; have h1 := of_decide_eq_true HU1.out; have h2 := of_decide_eq_true HU2.out; simpa [h1, h2] using h
      go_wp2_with fail
      refine (KW.out _).mono ?_
      rintro e wv ⟨rfl, hwv⟩
      obtain rfl := hwv.symm
      clear hwv
      obtain ⟨d0, d1, d2, d3, d4, d5⟩ := RES.out.cs6
      obtain ⟨f0, f1, f2, f3, f4, f5⟩ := RES.out.fz6
      go_wp2
      exact bodyPost_ret (results_row_tmp rfl _ _ (w.heap.size + 2) 27 _ (0, 0) _ _ rfl rfl (RES.out.put6 _ _ _ _ _ _) Tryz.underlying27 rfl (by kernel_rfl)) rfl ⟨_, _, rfl, (RdN.set6 RES.out rfl (RdN.none0 _) _ _ _ _ _ _), (RdN.set6 RES.out rfl (RdN.none0 _) _ _ _ _ _ _), (bel_set6 (g := w.heap.size + 2) HW.out (by omega) _ _ _ _ _ _)⟩
end
end Go.Proofs.YtmbbdjpnecjleaaGreat
