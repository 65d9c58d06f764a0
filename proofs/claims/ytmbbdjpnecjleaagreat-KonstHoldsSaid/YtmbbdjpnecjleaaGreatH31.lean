/-
 Parts: K34.
-/
import Derived.Test.YtmbbdjpnecjleaaGreatH30
import Derived.Test.YtmbbdjpnecjleaaGreatH24
namespace Go.Proofs.YtmbbdjpnecjleaaGreat
section
set_option maxRecDepth 100000
set_option maxHeartbeats 1000000
open Go.RowKit

set_option maxHeartbeats 2000000 in
theorem kShf_bad (op : ByteArray) (ka kb : Int) (ba bb ga gb : Bool) (sa sb : ByteArray) (A B A' B' : Option Addr) (c d c' d' : Nat) (xs ys xs' ys' : List Nat) (t : Int) (w : World) (h1 : RdL w A xs) (h2 : RdL w B ys) (h3 : RdL w A' xs') (h4 : RdL w B' ys') (m1 : Lim xs) (m2 : Lim ys) (m3 : Lim xs') (m4 : Lim ys') (l1 : xs.length ≤ 18) (l2 : ys.length ≤ 18) (l3 : xs'.length ≤ 18) (l4 : ys'.length ≤ 18) (k1 : xs.length ≤ c) (k2 : ys.length ≤ d) (k3 : xs'.length ≤ c') (k4 : ys'.length ≤ d') (hx : ¬ (rightV ka ba sa ga xs ys = true ∧ rightV kb bb sb gb xs' ys' = true ∧ basB t = true ∧ (op = ⟨#[60, 60]⟩ ∨ op = ⟨#[62, 62]⟩))) :
 Calls Tryz.prog 15 #[.string op, .agg #[.int .i64 ka, .bool ba, .string sa, .bool ga, .slice A xs.length c, .slice B ys.length d], .agg #[.int .i64 kb, .bool bb, .string sb, .bool gb, .slice A' xs'.length c', .slice B' ys'.length d'], .int .i64 t] w (RetV 0 false ⟨#[]⟩ noQ 1 w) := by
 have R1 := Lib.hid h1; clear h1
 have R2 := Lib.hid h2; clear h2
 have R3 := Lib.hid h3; clear h3
 have R4 := Lib.hid h4; clear h4
 have M4 := Lib.hid (And.intro m1 (And.intro m2 (And.intro m3 m4))); clear m1 m2 m3 m4
 have L4 := Lib.hid (And.intro l1 (And.intro l2 (And.intro l3 l4))); clear l1 l2 l3 l4
 have K4 := Lib.hid (And.intro k1 (And.intro k2 (And.intro k3 k4))); clear k1 k2 k3 k4
 obtain ⟨u1, hu1⟩ : ∃ u, rightV ka ba sa ga xs ys = u := ⟨_, rfl⟩
 obtain ⟨u2, hu2⟩ : ∃ u, rightV kb bb sb gb xs' ys' = u := ⟨_, rfl⟩
 obtain ⟨u3, hu3⟩ : ∃ u, basB t = u := ⟨_, rfl⟩
 rw [hu1, hu2, hu3] at hx
 have HX := Lib.hid hx; clear hx
 have HR1 := Lib.hid hu1; clear hu1
 have HR2 := Lib.hid hu2; clear hu2
 have KB := Lib.hid (fun W => kBas_is t W hu3); clear hu3
 obtain ⟨wa, hwa⟩ : ∃ wa, wa = ((w.alloc (.cells #[.int .i64 ka, .bool ba, .string sa, .bool ga, .slice A xs.length c, .slice B ys.length d] 27)).alloc (.cells #[.int .i64 kb, .bool bb, .string sb, .bool gb, .slice A' xs'.length c', .slice B' ys'.length d'] 27)).alloc (.cells #[.int .i64 0, .bool false, .string ⟨#[]⟩, .bool false, .slice none 0 0, .slice none 0 0] 27) := ⟨_, rfl⟩
 obtain ⟨hbl, CX, CY, RES⟩ := kal3 hwa
 replace R1 := hmR R1 hbl
 replace R2 := hmR R2 hbl
 replace R3 := hmR R3 hbl
 replace R4 := hmR R4 hbl
 have HW := Lib.hid hbl; clear hbl
 replace CX := Lib.hid CX
 replace CY := Lib.hid CY
 replace RES := Lib.hid RES
 go_enter Tryz.func15, Tryz.ntmps15
 go_upto_region 1 with fail
 rw [← hwa]
 clear hwa
 obtain ⟨CX0, CX1, CX2, CX3, CX4, CX5⟩ := CX.out.cs6
 obtain ⟨CY0, CY1, CY2, CY3, CY4, CY5⟩ := CY.out.cs6
 go_wp2_with fail
 refine (kRight_any ka ba sa ga A B c d xs ys _ R1.out R2.out M4.out.1 M4.out.2.1 L4.out.1 L4.out.2.1 K4.out.1 K4.out.2.1).mono ?_
 rintro e w1 ⟨rfl, hbl⟩
 replace R1 := hmR R1 hbl
 replace R2 := hmR R2 hbl
 replace R3 := hmR R3 hbl
 replace R4 := hmR R4 hbl
 replace CX := hmB CX hbl
 replace CY := hmB CY hbl
 replace RES := hmB RES hbl
 replace HW := hmW HW hbl; clear hbl
 clear CX0 CX1 CX2 CX3 CX4 CX5 CY0 CY1 CY2 CY3 CY4 CY5
 obtain ⟨CX0, CX1, CX2, CX3, CX4, CX5⟩ := CX.out.cs6
 obtain ⟨CY0, CY1, CY2, CY3, CY4, CY5⟩ := CY.out.cs6
 rw [HR1.out]
 cases u1
 · obtain ⟨d0, d1, d2, d3, d4, d5⟩ := RES.out.cs6
   obtain ⟨f0, f1, f2, f3, f4, f5⟩ := RES.out.fz6
   go_wp2
   exact bodyPost_ret (results_row_tmp rfl _ _ (w.heap.size + 2) 27 _ (0, 0) _ _ rfl rfl (RES.out.put6 _ _ _ _ _ _) Tryz.underlying27 rfl (by kernel_rfl)) rfl ⟨_, _, rfl, (RdN.set6 RES.out rfl (RdN.none0 _) _ _ _ _ _ _), (RdN.set6 RES.out rfl (RdN.none0 _) _ _ _ _ _ _), (bel_set6 (g := w.heap.size + 2) HW.out (by omega) _ _ _ _ _ _)⟩
 · go_wp2_with fail
   refine (kRight_any kb bb sb gb A' B' c' d' xs' ys' _ R3.out R4.out M4.out.2.2.1 M4.out.2.2.2 L4.out.2.2.1 L4.out.2.2.2 K4.out.2.2.1 K4.out.2.2.2).mono ?_
   rintro e w2 ⟨rfl, hbl⟩
   replace R1 := hmR R1 hbl
   replace R2 := hmR R2 hbl
   replace R3 := hmR R3 hbl
   replace R4 := hmR R4 hbl
   replace CX := hmB CX hbl
   replace CY := hmB CY hbl
   replace RES := hmB RES hbl
   replace HW := hmW HW hbl; clear hbl
   clear CX0 CX1 CX2 CX3 CX4 CX5 CY0 CY1 CY2 CY3 CY4 CY5
   obtain ⟨CX0, CX1, CX2, CX3, CX4, CX5⟩ := CX.out.cs6
   obtain ⟨CY0, CY1, CY2, CY3, CY4, CY5⟩ := CY.out.cs6
   rw [HR2.out]
   cases u2
   · obtain ⟨d0, d1, d2, d3, d4, d5⟩ := RES.out.cs6
     obtain ⟨f0, f1, f2, f3, f4, f5⟩ := RES.out.fz6
     go_wp2
     exact bodyPost_ret (results_row_tmp rfl _ _ (w.heap.size + 2) 27 _ (0, 0) _ _ rfl rfl (RES.out.put6 _ _ _ _ _ _) Tryz.underlying27 rfl (by kernel_rfl)) rfl ⟨_, _, rfl, (RdN.set6 RES.out rfl (RdN.none0 _) _ _ _ _ _ _), (RdN.set6 RES.out rfl (RdN.none0 _) _ _ _ _ _ _), (bel_set6 (g := w.heap.size + 2) HW.out (by omega) _ _ _ _ _ _)⟩
   · go_wp2_with fail
     refine (KB.out _).mono ?_
     rintro e wv ⟨rfl, hwv⟩
     obtain rfl := hwv.symm
     clear hwv
     cases u3
     · obtain ⟨d0, d1, d2, d3, d4, d5⟩ := RES.out.cs6
       obtain ⟨f0, f1, f2, f3, f4, f5⟩ := RES.out.fz6
       go_wp2
       exact bodyPost_ret (results_row_tmp rfl _ _ (w.heap.size + 2) 27 _ (0, 0) _ _ rfl rfl (RES.out.put6 _ _ _ _ _ _) Tryz.underlying27 rfl (by kernel_rfl)) rfl ⟨_, _, rfl, (RdN.set6 RES.out rfl (RdN.none0 _) _ _ _ _ _ _), (RdN.set6 RES.out rfl (RdN.none0 _) _ _ _ _ _ _), (bel_set6 (g := w.heap.size + 2) HW.out (by omega) _ _ _ _ _ _)⟩
     · have hno : ¬ op = ⟨#[60, 60]⟩ ∧ ¬ op = ⟨#[62, 62]⟩ := by have h := HX.out; simp at h; exact h
       obtain ⟨s1, q1⟩ := str_no (l := [60, 60]) (t := ⟨#[60, 60]⟩) (by rw [ByteArray.toList_eq]) hno.1
       obtain ⟨s2, q2⟩ := str_no (l := [62, 62]) (t := ⟨#[62, 62]⟩) (by rw [ByteArray.toList_eq]) hno.2
       clear hno
       obtain ⟨d0, d1, d2, d3, d4, d5⟩ := RES.out.cs6
       obtain ⟨f0, f1, f2, f3, f4, f5⟩ := RES.out.fz6
       go_wp2
       exact bodyPost_ret (results_row_tmp rfl _ _ (w.heap.size + 2) 27 _ (0, 0) _ _ rfl rfl (RES.out.put6 _ _ _ _ _ _) Tryz.underlying27 rfl (by kernel_rfl)) rfl ⟨_, _, rfl, (RdN.set6 RES.out rfl (RdN.none0 _) _ _ _ _ _ _), (RdN.set6 RES.out rfl (RdN.none0 _) _ _ _ _ _ _), (bel_set6 (g := w.heap.size + 2) HW.out (by omega) _ _ _ _ _ _)⟩
set_option maxHeartbeats 4000000 in
theorem kShf_type {ia ib : Bool} (op : ByteArray) (ka kb : Int) (ba bb ga gb : Bool) (sa sb : ByteArray) (A B A' B' : Option Addr) (c d c' d' : Nat) (xs ys xs' ys' : List Nat) (t : Int) (w : World) (h1 : RdL w A xs) (h2 : RdL w B ys) (h3 : RdL w A' xs') (h4 : RdL w B' ys') (m1 : Lim xs) (m2 : Lim ys) (m3 : Lim xs') (m4 : Lim ys') (l1 : xs.length ≤ 18) (l2 : ys.length ≤ 18) (l3 : xs'.length ≤ 18) (l4 : ys'.length ≤ 18) (k1 : xs.length ≤ c) (k2 : ys.length ≤ d) (k3 : xs'.length ≤ c') (k4 : ys'.length ≤ d') (hr1 : rightV ka ba sa ga xs ys = true) (hr2 : rightV kb bb sb gb xs' ys' = true) (hb : basB t = true) (hop : (op = ⟨#[60, 60]⟩ ∨ op = ⟨#[62, 62]⟩)) (hIa : ∀ W, RdL W A xs → RdL W B ys → Calls Tryz.prog 27 #[.agg #[.int .i64 ka, .bool ba, .string sa, .bool ga, .slice A xs.length c, .slice B ys.length d]] W (RetBB ia W)) (hIb : ∀ W, RdL W A' xs' → RdL W B' ys' → Calls Tryz.prog 27 #[.agg #[.int .i64 kb, .bool bb, .string sb, .bool gb, .slice A' xs'.length c', .slice B' ys'.length d']] W (RetBB ib W)) (hx : ¬ (wholeB t = true ∧ ia = true ∧ ib = true)) :
 Calls Tryz.prog 15 #[.string op, .agg #[.int .i64 ka, .bool ba, .string sa, .bool ga, .slice A xs.length c, .slice B ys.length d], .agg #[.int .i64 kb, .bool bb, .string sb, .bool gb, .slice A' xs'.length c', .slice B' ys'.length d'], .int .i64 t] w (RetV 0 false ⟨#[]⟩ noQ 11 w) := by
 have R1 := Lib.hid h1; clear h1
 have R2 := Lib.hid h2; clear h2
 have R3 := Lib.hid h3; clear h3
 have R4 := Lib.hid h4; clear h4
 have M4 := Lib.hid (And.intro m1 (And.intro m2 (And.intro m3 m4))); clear m1 m2 m3 m4
 have L4 := Lib.hid (And.intro l1 (And.intro l2 (And.intro l3 l4))); clear l1 l2 l3 l4
 have K4 := Lib.hid (And.intro k1 (And.intro k2 (And.intro k3 k4))); clear k1 k2 k3 k4
 have HR1 := Lib.hid hr1; clear hr1
 have HR2 := Lib.hid hr2; clear hr2
 have KB := Lib.hid (fun W => kBas_is t W hb); clear hb
 obtain ⟨v, hv⟩ : ∃ v, wholeB t = v := ⟨_, rfl⟩
 have KW := Lib.hid (fun W => kWhole_is t W hv)
 rw [hv] at hx; clear hv
 have HX := Lib.hid hx; clear hx
 have HIA := Lib.hid hIa; clear hIa
 have HIB := Lib.hid hIb; clear hIb
 have hop2 : ((op.toList == [60, 60]) = true ∧ op.toList = [60, 60]) ∨ ((op.toList == [60, 60]) = false ∧ ¬ op.toList = [60, 60] ∧ (op.toList == [62, 62]) = true ∧ op.toList = [62, 62]) := by
  rcases hop with rfl | rfl
  · exact .inl (by decide +kernel)
  · exact .inr (by decide +kernel)
 clear hop
 obtain ⟨wa, hwa⟩ : ∃ wa, wa = ((w.alloc (.cells #[.int .i64 ka, .bool ba, .string sa, .bool ga, .slice A xs.length c, .slice B ys.length d] 27)).alloc (.cells #[.int .i64 kb, .bool bb, .string sb, .bool gb, .slice A' xs'.length c', .slice B' ys'.length d'] 27)).alloc (.cells #[.int .i64 0, .bool false, .string ⟨#[]⟩, .bool false, .slice none 0 0, .slice none 0 0] 27) := ⟨_, rfl⟩
 obtain ⟨hbl, CX, CY, RES⟩ := kal3 hwa
 replace R1 := hmR R1 hbl
 replace R2 := hmR R2 hbl
 replace R3 := hmR R3 hbl
 replace R4 := hmR R4 hbl
 have HW := Lib.hid hbl; clear hbl
 replace CX := Lib.hid CX
 replace CY := Lib.hid CY
 replace RES := Lib.hid RES
 go_enter Tryz.func15, Tryz.ntmps15
 go_upto_region 1 with fail
 rw [← hwa]
 clear hwa
 obtain ⟨CX0, CX1, CX2, CX3, CX4, CX5⟩ := CX.out.cs6
 obtain ⟨CY0, CY1, CY2, CY3, CY4, CY5⟩ := CY.out.cs6
 go_wp2_with fail
 refine (kRight_any ka ba sa ga A B c d xs ys _ R1.out R2.out M4.out.1 M4.out.2.1 L4.out.1 L4.out.2.1 K4.out.1 K4.out.2.1).mono ?_
 rintro e w1 ⟨rfl, hbl⟩
 replace R1 := hmR R1 hbl
 replace R2 := hmR R2 hbl
 replace R3 := hmR R3 hbl
 replace R4 := hmR R4 hbl
 replace CX := hmB CX hbl
 replace CY := hmB CY hbl
 replace RES := hmB RES hbl
 replace HW := hmW HW hbl; clear hbl
 clear CX0 CX1 CX2 CX3 CX4 CX5 CY0 CY1 CY2 CY3 CY4 CY5
 obtain ⟨CX0, CX1, CX2, CX3, CX4, CX5⟩ := CX.out.cs6
 obtain ⟨CY0, CY1, CY2, CY3, CY4, CY5⟩ := CY.out.cs6
 rw [HR1.out]
 go_wp2_with fail
 refine (kRight_any kb bb sb gb A' B' c' d' xs' ys' _ R3.out R4.out M4.out.2.2.1 M4.out.2.2.2 L4.out.2.2.1 L4.out.2.2.2 K4.out.2.2.1 K4.out.2.2.2).mono ?_
 rintro e w2 ⟨rfl, hbl⟩
 replace R1 := hmR R1 hbl
 replace R2 := hmR R2 hbl
 replace R3 := hmR R3 hbl
 replace R4 := hmR R4 hbl
 replace CX := hmB CX hbl
 replace CY := hmB CY hbl
 replace RES := hmB RES hbl
 replace HW := hmW HW hbl; clear hbl
 clear CX0 CX1 CX2 CX3 CX4 CX5 CY0 CY1 CY2 CY3 CY4 CY5
 obtain ⟨CX0, CX1, CX2, CX3, CX4, CX5⟩ := CX.out.cs6
 obtain ⟨CY0, CY1, CY2, CY3, CY4, CY5⟩ := CY.out.cs6
 rw [HR2.out]
 go_wp2_with fail
 refine (KB.out _).mono ?_
 rintro e wv ⟨rfl, hwv⟩
 obtain rfl := hwv.symm
 clear hwv
 rcases hop2 with ⟨p1, p2⟩ | ⟨p1, p2, p3, p4⟩
 all_goals
  go_wp2_with fail
  refine (KW.out _).mono ?_
  rintro e wv ⟨rfl, hwv⟩
  obtain rfl := hwv.symm
  clear hwv
  cases v
  · obtain ⟨d0, d1, d2, d3, d4, d5⟩ := RES.out.cs6
    obtain ⟨f0, f1, f2, f3, f4, f5⟩ := RES.out.fz6
    go_wp2
    exact bodyPost_ret (results_row_tmp rfl _ _ (w.heap.size + 2) 27 _ (0, 0) _ _ rfl rfl (RES.out.put6 _ _ _ _ _ _) Tryz.underlying27 rfl (by kernel_rfl)) rfl ⟨_, _, rfl, (RdN.set6 RES.out rfl (RdN.none0 _) _ _ _ _ _ _), (RdN.set6 RES.out rfl (RdN.none0 _) _ _ _ _ _ _), (bel_set6 (g := w.heap.size + 2) HW.out (by omega) _ _ _ _ _ _)⟩
  · go_wp2_with fail
    refine (HIA.out _ R1.out R2.out).mono ?_
    rintro e w3 ⟨rfl, hbl⟩
    replace R1 := hmR R1 hbl
    replace R2 := hmR R2 hbl
    replace R3 := hmR R3 hbl
    replace R4 := hmR R4 hbl
    replace CX := hmB CX hbl
    replace CY := hmB CY hbl
    replace RES := hmB RES hbl
    replace HW := hmW HW hbl; clear hbl
    clear CX0 CX1 CX2 CX3 CX4 CX5 CY0 CY1 CY2 CY3 CY4 CY5
    obtain ⟨CX0, CX1, CX2, CX3, CX4, CX5⟩ := CX.out.cs6
    obtain ⟨CY0, CY1, CY2, CY3, CY4, CY5⟩ := CY.out.cs6
    cases ia
    · obtain ⟨d0, d1, d2, d3, d4, d5⟩ := RES.out.cs6
      obtain ⟨f0, f1, f2, f3, f4, f5⟩ := RES.out.fz6
      go_wp2
      exact bodyPost_ret (results_row_tmp rfl _ _ (w.heap.size + 2) 27 _ (0, 0) _ _ rfl rfl (RES.out.put6 _ _ _ _ _ _) Tryz.underlying27 rfl (by kernel_rfl)) rfl ⟨_, _, rfl, (RdN.set6 RES.out rfl (RdN.none0 _) _ _ _ _ _ _), (RdN.set6 RES.out rfl (RdN.none0 _) _ _ _ _ _ _), (bel_set6 (g := w.heap.size + 2) HW.out (by omega) _ _ _ _ _ _)⟩
    · obtain rfl : ib = false := by simpa using HX.out
      go_wp2_with fail
      refine (HIB.out _ R3.out R4.out).mono ?_
      rintro e w4 ⟨rfl, hbl⟩
      replace R1 := hmR R1 hbl
      replace R2 := hmR R2 hbl
      replace R3 := hmR R3 hbl
      replace R4 := hmR R4 hbl
      replace CX := hmB CX hbl
      replace CY := hmB CY hbl
      replace RES := hmB RES hbl
      replace HW := hmW HW hbl; clear hbl
      clear CX0 CX1 CX2 CX3 CX4 CX5 CY0 CY1 CY2 CY3 CY4 CY5
      obtain ⟨CX0, CX1, CX2, CX3, CX4, CX5⟩ := CX.out.cs6
      obtain ⟨CY0, CY1, CY2, CY3, CY4, CY5⟩ := CY.out.cs6
      obtain ⟨d0, d1, d2, d3, d4, d5⟩ := RES.out.cs6
      obtain ⟨f0, f1, f2, f3, f4, f5⟩ := RES.out.fz6
      go_wp2
      exact bodyPost_ret (results_row_tmp rfl _ _ (w.heap.size + 2) 27 _ (0, 0) _ _ rfl rfl (RES.out.put6 _ _ _ _ _ _) Tryz.underlying27 rfl (by kernel_rfl)) rfl ⟨_, _, rfl, (RdN.set6 RES.out rfl (RdN.none0 _) _ _ _ _ _ _), (RdN.set6 RES.out rfl (RdN.none0 _) _ _ _ _ _ _), (bel_set6 (g := w.heap.size + 2) HW.out (by omega) _ _ _ _ _ _)⟩
theorem over_ne {b : Q} (hq : QR b) (ho : b.s = true ∨ 512 < b.n) : ¬ b.n = 0 := by
 intro e
 rcases ho with h | h
 · rw [hq.zero e] at h; cases h
 · omega
theorem limb_one {n : Nat} (h : (limbs n).length ≤ 1) (h0 : 0 < (limbs n).length) : (limbs n).getD 0 0 = n := by
 have h1 := lval_limbs n
 match hx : limbs n, h, h0 with
 | [x], _, _ => rw [hx] at h1; simpa [lval, val] using h1
set_option maxHeartbeats 4000000 in
theorem kShf_over (op : ByteArray) (t : Int) (a b : Q) (A B A' B' : Option Addr) (c d c' d' : Nat) (w : World) (h1 : RdL w A (limbs a.n)) (h2 : RdL w B (limbs a.d)) (h3 : RdL w A' (limbs b.n)) (h4 : RdL w B' (limbs b.d)) (k1 : (limbs a.n).length ≤ c) (k2 : (limbs a.d).length ≤ d) (k3 : (limbs b.n).length ≤ c') (k4 : (limbs b.d).length ≤ d') (ha : a.n < Top ∧ a.d < Top ∧ QR a) (hb : b.n < Top ∧ b.d < Top ∧ QR b) (hbas : basB t = true) (hop : (op = ⟨#[60, 60]⟩ ∨ op = ⟨#[62, 62]⟩)) (hw : wholeB t = true) (hda : a.d = 1) (hdb : b.d = 1) (ho : b.s = true ∨ 512 < b.n) :
 Calls Tryz.prog 15 #[.string op, .agg #[.int .i64 3, .bool false, .string ⟨#[]⟩, .bool a.s, .slice A (limbs a.n).length c, .slice B (limbs a.d).length d], .agg #[.int .i64 3, .bool false, .string ⟨#[]⟩, .bool b.s, .slice A' (limbs b.n).length c', .slice B' (limbs b.d).length d'], .int .i64 t] w (RetV 0 false ⟨#[]⟩ noQ 2 w) := by
 have R1 := Lib.hid h1; clear h1
 have R2 := Lib.hid h2; clear h2
 have R3 := Lib.hid h3; clear h3
 have R4 := Lib.hid h4; clear h4
 have K4 := Lib.hid (And.intro k1 (And.intro k2 (And.intro k3 k4))); clear k1 k2 k3 k4
 have LA := Lib.hid ha; clear ha
 have LB := Lib.hid hb; clear hb
 have KB := Lib.hid (fun W => kBas_is t W hbas); clear hbas
 have KW := Lib.hid (fun W => kWhole_is t W hw); clear hw
 have HDA := Lib.hid (decide_eq_true hda); clear hda
 have HDB := Lib.hid (decide_eq_true hdb); clear hdb
 have HLEN := Lib.hid (show 0 < (limbs b.n).length from limbs_pos15 (over_ne LB.out.2.2 ho))
 have HOV := Lib.hid ho; clear ho
 have hop2 : ((op.toList == [60, 60]) = true ∧ op.toList = [60, 60]) ∨ ((op.toList == [60, 60]) = false ∧ ¬ op.toList = [60, 60] ∧ (op.toList == [62, 62]) = true ∧ op.toList = [62, 62]) := by
  rcases hop with rfl | rfl
  · exact .inl (by decide +kernel)
  · exact .inr (by decide +kernel)
 clear hop
 obtain ⟨wa, hwa⟩ : ∃ wa, wa = ((w.alloc (.cells #[.int .i64 3, .bool false, .string ⟨#[]⟩, .bool a.s, .slice A (limbs a.n).length c, .slice B (limbs a.d).length d] 27)).alloc (.cells #[.int .i64 3, .bool false, .string ⟨#[]⟩, .bool b.s, .slice A' (limbs b.n).length c', .slice B' (limbs b.d).length d'] 27)).alloc (.cells #[.int .i64 0, .bool false, .string ⟨#[]⟩, .bool false, .slice none 0 0, .slice none 0 0] 27) := ⟨_, rfl⟩
 obtain ⟨hbl, CX, CY, RES⟩ := kal3 hwa
 replace R1 := hmR R1 hbl
 replace R2 := hmR R2 hbl
 replace R3 := hmR R3 hbl
 replace R4 := hmR R4 hbl
 have HW := Lib.hid hbl; clear hbl
 replace CX := Lib.hid CX
 replace CY := Lib.hid CY
 replace RES := Lib.hid RES
 go_enter Tryz.func15, Tryz.ntmps15
 go_upto_region 1 with fail
 rw [← hwa]
 clear hwa
 obtain ⟨CX0, CX1, CX2, CX3, CX4, CX5⟩ := CX.out.cs6
 obtain ⟨CY0, CY1, CY2, CY3, CY4, CY5⟩ := CY.out.cs6
 go_wp2_with fail
 refine (kRight_any 3 false ⟨#[]⟩ a.s A B c d (limbs a.n) (limbs a.d) _ R1.out R2.out (limbs_lim _) (limbs_lim _) (len18 LA.out.1) (len18 LA.out.2.1) K4.out.1 K4.out.2.1).mono ?_
 rintro e w1 ⟨rfl, hbl⟩
 replace R1 := hmR R1 hbl
 replace R2 := hmR R2 hbl
 replace R3 := hmR R3 hbl
 replace R4 := hmR R4 hbl
 replace CX := hmB CX hbl
 replace CY := hmB CY hbl
 replace RES := hmB RES hbl
 replace HW := hmW HW hbl; clear hbl
 clear CX0 CX1 CX2 CX3 CX4 CX5 CY0 CY1 CY2 CY3 CY4 CY5
 obtain ⟨CX0, CX1, CX2, CX3, CX4, CX5⟩ := CX.out.cs6
 obtain ⟨CY0, CY1, CY2, CY3, CY4, CY5⟩ := CY.out.cs6
 rw [rightV_num LA.out.1 LA.out.2.1 LA.out.2.2]
 go_wp2_with fail
 refine (kRight_any 3 false ⟨#[]⟩ b.s A' B' c' d' (limbs b.n) (limbs b.d) _ R3.out R4.out (limbs_lim _) (limbs_lim _) (len18 LB.out.1) (len18 LB.out.2.1) K4.out.2.2.1 K4.out.2.2.2).mono ?_
 rintro e w2 ⟨rfl, hbl⟩
 replace R1 := hmR R1 hbl
 replace R2 := hmR R2 hbl
 replace R3 := hmR R3 hbl
 replace R4 := hmR R4 hbl
 replace CX := hmB CX hbl
 replace CY := hmB CY hbl
 replace RES := hmB RES hbl
 replace HW := hmW HW hbl; clear hbl
 clear CX0 CX1 CX2 CX3 CX4 CX5 CY0 CY1 CY2 CY3 CY4 CY5
 obtain ⟨CX0, CX1, CX2, CX3, CX4, CX5⟩ := CX.out.cs6
 obtain ⟨CY0, CY1, CY2, CY3, CY4, CY5⟩ := CY.out.cs6
 rw [rightV_num LB.out.1 LB.out.2.1 LB.out.2.2]
 go_wp2_with fail
 refine (KB.out _).mono ?_
 rintro e wv ⟨rfl, hwv⟩
 obtain rfl := hwv.symm
 clear hwv
 rcases hop2 with ⟨p1, p2⟩ | ⟨p1, p2, p3, p4⟩
 all_goals
  go_wp2_with fail
  refine (KW.out _).mono ?_
  rintro e wv ⟨rfl, hwv⟩
  obtain rfl := hwv.symm
  clear hwv
  go_wp2_with fail
  refine (kIsW_num a A B c d _ R1.out R2.out K4.out.1 K4.out.2.1 LA.out.1 LA.out.2.1).mono ?_
  rintro e w3 ⟨rfl, hbl⟩
  replace R1 := hmR R1 hbl
  replace R2 := hmR R2 hbl
  replace R3 := hmR R3 hbl
  replace R4 := hmR R4 hbl
  replace CX := hmB CX hbl
  replace CY := hmB CY hbl
  replace RES := hmB RES hbl
  replace HW := hmW HW hbl; clear hbl
  clear CX0 CX1 CX2 CX3 CX4 CX5 CY0 CY1 CY2 CY3 CY4 CY5
  obtain ⟨CX0, CX1, CX2, CX3, CX4, CX5⟩ := CX.out.cs6
  obtain ⟨CY0, CY1, CY2, CY3, CY4, CY5⟩ := CY.out.cs6
  rw [HDA.out]
  go_wp2_with fail
  refine (kIsW_num b A' B' c' d' _ R3.out R4.out K4.out.2.2.1 K4.out.2.2.2 LB.out.1 LB.out.2.1).mono ?_
  rintro e w4 ⟨rfl, hbl⟩
  replace R1 := hmR R1 hbl
  replace R2 := hmR R2 hbl
  replace R3 := hmR R3 hbl
  replace R4 := hmR R4 hbl
  replace CX := hmB CX hbl
  replace CY := hmB CY hbl
  replace RES := hmB RES hbl
  replace HW := hmW HW hbl; clear hbl
  clear CX0 CX1 CX2 CX3 CX4 CX5 CY0 CY1 CY2 CY3 CY4 CY5
  obtain ⟨CX0, CX1, CX2, CX3, CX4, CX5⟩ := CX.out.cs6
  obtain ⟨CY0, CY1, CY2, CY3, CY4, CY5⟩ := CY.out.cs6
  rw [HDB.out]
  obtain ⟨ng, og, eA, hgl, hcl⟩ := R3.out.at_ HLEN.out
  obtain ⟨L0, hL0⟩ : ∃ L0, (limbs b.n).getD 0 0 = L0 := ⟨_, rfl⟩
  rw [hL0, Nat.add_zero] at hcl
  have HL0 := Lib.hid hL0; clear hL0
  subst eA
  have hln : (0 : Int) < ((limbs b.n).length : Int) := by have := HLEN.out; omega
  obtain ⟨y, hy⟩ : ∃ y, (if (513 : Int) < (L0 : Int) then (513 : Int) else (L0 : Int)) = y := ⟨_, rfl⟩
  have hyr : 0 ≤ y ∧ y ≤ 513 := by rw [← hy]; split <;> omega
  have hyw : IntKind.i64.wrap y = y := by rw [IntKind.wrap_i64]; omega
  have HY := Lib.hid (And.intro hy hyr); clear hyr
  by_cases hs : b.s = true
  · have hs1 : b.s = true := hs
    clear hs
    obtain ⟨d0, d1, d2, d3, d4, d5⟩ := RES.out.cs6
    obtain ⟨f0, f1, f2, f3, f4, f5⟩ := RES.out.fz6
    go_wp2
    exact bodyPost_ret (results_row_tmp rfl _ _ (w.heap.size + 2) 27 _ (0, 0) _ _ rfl rfl (RES.out.put6 _ _ _ _ _ _) Tryz.underlying27 rfl (by kernel_rfl)) rfl ⟨_, _, rfl, (RdN.set6 RES.out rfl (RdN.none0 _) _ _ _ _ _ _), (RdN.set6 RES.out rfl (RdN.none0 _) _ _ _ _ _ _), (bel_set6 (g := w.heap.size + 2) HW.out (by omega) _ _ _ _ _ _)⟩
  · have hs1 : b.s = false := by simpa using hs
    clear hs
    by_cases hl : 1 < (limbs b.n).length
    · have hl1 : (1 : Int) < ((limbs b.n).length : Int) := by omega
      clear hl
      obtain ⟨d0, d1, d2, d3, d4, d5⟩ := RES.out.cs6
      obtain ⟨f0, f1, f2, f3, f4, f5⟩ := RES.out.fz6
      go_wp2
      exact bodyPost_ret (results_row_tmp rfl _ _ (w.heap.size + 2) 27 _ (0, 0) _ _ rfl rfl (RES.out.put6 _ _ _ _ _ _) Tryz.underlying27 rfl (by kernel_rfl)) rfl ⟨_, _, rfl, (RdN.set6 RES.out rfl (RdN.none0 _) _ _ _ _ _ _), (RdN.set6 RES.out rfl (RdN.none0 _) _ _ _ _ _ _), (bel_set6 (g := w.heap.size + 2) HW.out (by omega) _ _ _ _ _ _)⟩
    · have hl1 : ¬ (1 : Int) < ((limbs b.n).length : Int) := by omega
      have hb9 : 512 < b.n := (HOV.out).resolve_left (by rw [hs1]; decide)
      have hy9 : (512 : Int) < y := by rw [← HY.out.1]; have := limb_one (by omega) HLEN.out; rw [HL0.out] at this; split <;> omega
      clear hl hb9
      obtain ⟨d0, d1, d2, d3, d4, d5⟩ := RES.out.cs6
      obtain ⟨f0, f1, f2, f3, f4, f5⟩ := RES.out.fz6
      go_wp2
      exact bodyPost_ret (results_row_tmp rfl _ _ (w.heap.size + 2) 27 _ (0, 0) _ _ rfl rfl (RES.out.put6 _ _ _ _ _ _) Tryz.underlying27 rfl (by kernel_rfl)) rfl ⟨_, _, rfl, (RdN.set6 RES.out rfl (RdN.none0 _) _ _ _ _ _ _), (RdN.set6 RES.out rfl (RdN.none0 _) _ _ _ _ _ _), (bel_set6 (g := w.heap.size + 2) HW.out (by omega) _ _ _ _ _ _)⟩
theorem limbs_short15 {n : Nat} (h : n < B32) : (limbs n).length ≤ 1 := limbs_len.2 (by rw [Nat.pow_one]; exact h)
set_option maxHeartbeats 4000000 in
theorem kShf_zero {kk r e : Int} {m v : Q} (op : ByteArray) (t : Int) (a b : Q) (A B A' B' : Option Addr) (c d c' d' : Nat) (w : World) (h1 : RdL w A (limbs a.n)) (h2 : RdL w B (limbs a.d)) (h3 : RdL w A' (limbs b.n)) (h4 : RdL w B' (limbs b.d)) (k1 : (limbs a.n).length ≤ c) (k2 : (limbs a.d).length ≤ d) (k3 : (limbs b.n).length ≤ c') (k4 : (limbs b.d).length ≤ d') (ha : a.n < Top ∧ a.d < Top ∧ QR a) (hb : b.n < Top ∧ b.d < Top ∧ QR b) (hbas : basB t = true) (hop : (op = ⟨#[60, 60]⟩ ∨ op = ⟨#[62, 62]⟩)) (hw : wholeB t = true) (hda : a.d = 1) (hdb : b.d = 1) (hs : b.s = false) (hb9 : b.n = 0) (hS : ∀ W, RdL W A (limbs a.n) → RdL W B (limbs a.d) → Calls Tryz.prog 48 #[.string op, .agg #[.bool a.s, .slice A (limbs a.n).length c, .slice B (limbs a.d).length d], .int .i64 (b.n : Int)] W (RetQE m e W)) (hF : e = 0 → ∀ W A B c d, RdL W A (limbs m.n) → RdL W B (limbs m.d) → (limbs m.n).length ≤ c → (limbs m.d).length ≤ d → Calls Tryz.prog 29 #[.agg #[.int .i64 3, .bool false, .string ⟨#[]⟩, .bool m.s, .slice A (limbs m.n).length c, .slice B (limbs m.d).length d], .int .i64 t] W (RetV kk false ⟨#[]⟩ v r W)) (hE2 : e ≠ 0 → v = noQ ∧ r = e ∧ kk = 0) :
 Calls Tryz.prog 15 #[.string op, .agg #[.int .i64 3, .bool false, .string ⟨#[]⟩, .bool a.s, .slice A (limbs a.n).length c, .slice B (limbs a.d).length d], .agg #[.int .i64 3, .bool false, .string ⟨#[]⟩, .bool b.s, .slice A' (limbs b.n).length c', .slice B' (limbs b.d).length d'], .int .i64 t] w (RetV kk false ⟨#[]⟩ v r w) := by
 have R1 := Lib.hid h1; clear h1
 have R2 := Lib.hid h2; clear h2
 have R3 := Lib.hid h3; clear h3
 have R4 := Lib.hid h4; clear h4
 have K4 := Lib.hid (And.intro k1 (And.intro k2 (And.intro k3 k4))); clear k1 k2 k3 k4
 have LA := Lib.hid ha; clear ha
 have LB := Lib.hid hb; clear hb
 have KB := Lib.hid (fun W => kBas_is t W hbas); clear hbas
 have KW := Lib.hid (fun W => kWhole_is t W hw); clear hw
 have HDA := Lib.hid (decide_eq_true hda); clear hda
 have HDB := Lib.hid (decide_eq_true hdb); clear hdb
 have hs1 : b.s = false := hs
 have HSH := Lib.hid hS; clear hS
 have HFI := Lib.hid hF; clear hF
 have HE2 := Lib.hid hE2; clear hE2
 have HB9 := Lib.hid hb9; clear hb9
 have HS0 := Lib.hid hs1; clear hs1 hs
 have hop2 : ((op.toList == [60, 60]) = true ∧ op.toList = [60, 60]) ∨ ((op.toList == [60, 60]) = false ∧ ¬ op.toList = [60, 60] ∧ (op.toList == [62, 62]) = true ∧ op.toList = [62, 62]) := by
  rcases hop with rfl | rfl
  · exact .inl (by decide +kernel)
  · exact .inr (by decide +kernel)
 clear hop
 obtain ⟨wa, hwa⟩ : ∃ wa, wa = ((w.alloc (.cells #[.int .i64 3, .bool false, .string ⟨#[]⟩, .bool a.s, .slice A (limbs a.n).length c, .slice B (limbs a.d).length d] 27)).alloc (.cells #[.int .i64 3, .bool false, .string ⟨#[]⟩, .bool b.s, .slice A' (limbs b.n).length c', .slice B' (limbs b.d).length d'] 27)).alloc (.cells #[.int .i64 0, .bool false, .string ⟨#[]⟩, .bool false, .slice none 0 0, .slice none 0 0] 27) := ⟨_, rfl⟩
 obtain ⟨hbl, CX, CY, RES⟩ := kal3 hwa
 replace R1 := hmR R1 hbl
 replace R2 := hmR R2 hbl
 replace R3 := hmR R3 hbl
 replace R4 := hmR R4 hbl
 have HW := Lib.hid hbl; clear hbl
 replace CX := Lib.hid CX
 replace CY := Lib.hid CY
 replace RES := Lib.hid RES
 go_enter Tryz.func15, Tryz.ntmps15
 go_upto_region 1 with fail
 rw [← hwa]
 clear hwa
 obtain ⟨CX0, CX1, CX2, CX3, CX4, CX5⟩ := CX.out.cs6
 obtain ⟨CY0, CY1, CY2, CY3, CY4, CY5⟩ := CY.out.cs6
 go_wp2_with fail
 refine (kRight_any 3 false ⟨#[]⟩ a.s A B c d (limbs a.n) (limbs a.d) _ R1.out R2.out (limbs_lim _) (limbs_lim _) (len18 LA.out.1) (len18 LA.out.2.1) K4.out.1 K4.out.2.1).mono ?_
 rintro e w1 ⟨rfl, hbl⟩
 replace R1 := hmR R1 hbl
 replace R2 := hmR R2 hbl
 replace R3 := hmR R3 hbl
 replace R4 := hmR R4 hbl
 replace CX := hmB CX hbl
 replace CY := hmB CY hbl
 replace RES := hmB RES hbl
 replace HW := hmW HW hbl; clear hbl
 clear CX0 CX1 CX2 CX3 CX4 CX5 CY0 CY1 CY2 CY3 CY4 CY5
 obtain ⟨CX0, CX1, CX2, CX3, CX4, CX5⟩ := CX.out.cs6
 obtain ⟨CY0, CY1, CY2, CY3, CY4, CY5⟩ := CY.out.cs6
 rw [rightV_num LA.out.1 LA.out.2.1 LA.out.2.2]
 go_wp2_with fail
 refine (kRight_any 3 false ⟨#[]⟩ b.s A' B' c' d' (limbs b.n) (limbs b.d) _ R3.out R4.out (limbs_lim _) (limbs_lim _) (len18 LB.out.1) (len18 LB.out.2.1) K4.out.2.2.1 K4.out.2.2.2).mono ?_
 rintro e w2 ⟨rfl, hbl⟩
 replace R1 := hmR R1 hbl
 replace R2 := hmR R2 hbl
 replace R3 := hmR R3 hbl
 replace R4 := hmR R4 hbl
 replace CX := hmB CX hbl
 replace CY := hmB CY hbl
 replace RES := hmB RES hbl
 replace HW := hmW HW hbl; clear hbl
 clear CX0 CX1 CX2 CX3 CX4 CX5 CY0 CY1 CY2 CY3 CY4 CY5
 obtain ⟨CX0, CX1, CX2, CX3, CX4, CX5⟩ := CX.out.cs6
 obtain ⟨CY0, CY1, CY2, CY3, CY4, CY5⟩ := CY.out.cs6
 rw [rightV_num LB.out.1 LB.out.2.1 LB.out.2.2]
 go_wp2_with fail
 refine (KB.out _).mono ?_
 rintro e wv ⟨rfl, hwv⟩
 obtain rfl := hwv.symm
 clear hwv
 rcases hop2 with ⟨p1, p2⟩ | ⟨p1, p2, p3, p4⟩
 all_goals
  go_wp2_with fail
  refine (KW.out _).mono ?_
  rintro e wv ⟨rfl, hwv⟩
  obtain rfl := hwv.symm
  clear hwv
  go_wp2_with fail
  refine (kIsW_num a A B c d _ R1.out R2.out K4.out.1 K4.out.2.1 LA.out.1 LA.out.2.1).mono ?_
  rintro e w3 ⟨rfl, hbl⟩
  replace R1 := hmR R1 hbl
  replace R2 := hmR R2 hbl
  replace R3 := hmR R3 hbl
  replace R4 := hmR R4 hbl
  replace CX := hmB CX hbl
  replace CY := hmB CY hbl
  replace RES := hmB RES hbl
  replace HW := hmW HW hbl; clear hbl
  clear CX0 CX1 CX2 CX3 CX4 CX5 CY0 CY1 CY2 CY3 CY4 CY5
  obtain ⟨CX0, CX1, CX2, CX3, CX4, CX5⟩ := CX.out.cs6
  obtain ⟨CY0, CY1, CY2, CY3, CY4, CY5⟩ := CY.out.cs6
  rw [HDA.out]
  go_wp2_with fail
  refine (kIsW_num b A' B' c' d' _ R3.out R4.out K4.out.2.2.1 K4.out.2.2.2 LB.out.1 LB.out.2.1).mono ?_
  rintro e w4 ⟨rfl, hbl⟩
  replace R1 := hmR R1 hbl
  replace R2 := hmR R2 hbl
  replace R3 := hmR R3 hbl
  replace R4 := hmR R4 hbl
  replace CX := hmB CX hbl
  replace CY := hmB CY hbl
  replace RES := hmB RES hbl
  replace HW := hmW HW hbl; clear hbl
  clear CX0 CX1 CX2 CX3 CX4 CX5 CY0 CY1 CY2 CY3 CY4 CY5
  obtain ⟨CX0, CX1, CX2, CX3, CX4, CX5⟩ := CX.out.cs6
  obtain ⟨CY0, CY1, CY2, CY3, CY4, CY5⟩ := CY.out.cs6
  rw [HDB.out]
  have hs1 := HS0.out
  have hln : ¬ (0 : Int) < ((limbs b.n).length : Int) := by rw [HB9.out]; decide
  have hl1 : ¬ (1 : Int) < ((limbs b.n).length : Int) := by rw [HB9.out]; decide
  have hby : (0 : Int) = (b.n : Int) := by rw [HB9.out]; rfl
  have HBY := Lib.hid hby; clear hby
  go_wp2_with fail
  rw [HBY.out]
  refine (HSH.out _ R1.out R2.out).mono ?_
  rintro e w5 ⟨vx, vy, rfl, hnx, hny, hbl⟩
  replace R1 := hmR R1 hbl
  replace R2 := hmR R2 hbl
  replace R3 := hmR R3 hbl
  replace R4 := hmR R4 hbl
  replace CX := hmB CX hbl
  replace CY := hmB CY hbl
  replace RES := hmB RES hbl
  replace HW := hmW HW hbl; clear hbl
  clear CX0 CX1 CX2 CX3 CX4 CX5 CY0 CY1 CY2 CY3 CY4 CY5
  obtain ⟨CX0, CX1, CX2, CX3, CX4, CX5⟩ := CX.out.cs6
  obtain ⟨CY0, CY1, CY2, CY3, CY4, CY5⟩ := CY.out.cs6
  have HNx := Lib.hid hnx; clear hnx
  obtain ⟨Ax, cx, rfl, hcx, hrx⟩ := HNx.out.row
  have Rx := Lib.hid hrx; have HCx := Lib.hid hcx; clear hrx hcx
  have HNy := Lib.hid hny; clear hny
  obtain ⟨Ay, cy, rfl, hcy, hry⟩ := HNy.out.row
  have Ry := Lib.hid hry; have HCy := Lib.hid hcy; clear hry hcy
  go_upto_region 11 with fail
  obtain ⟨w40, hw40⟩ : ∃ w40, w40 = w5.alloc (.cells #[.bool m.s, .slice Ax (limbs m.n).length cx, .slice Ay (limbs m.d).length cy] 25) := ⟨_, rfl⟩
  rw [← hw40]
  obtain ⟨hbl, CM⟩ := sal1 hw40
  clear hw40
  replace R1 := hmR R1 hbl
  replace R2 := hmR R2 hbl
  replace R3 := hmR R3 hbl
  replace R4 := hmR R4 hbl
  replace Rx := hmR Rx hbl
  replace HNx := hmN HNx hbl
  replace Ry := hmR Ry hbl
  replace HNy := hmN HNy hbl
  replace CX := hmB CX hbl
  replace CY := hmB CY hbl
  replace RES := hmB RES hbl
  replace HW := hmW HW hbl; clear hbl
  clear CX0 CX1 CX2 CX3 CX4 CX5 CY0 CY1 CY2 CY3 CY4 CY5
  obtain ⟨CX0, CX1, CX2, CX3, CX4, CX5⟩ := CX.out.cs6
  obtain ⟨CY0, CY1, CY2, CY3, CY4, CY5⟩ := CY.out.cs6
  obtain ⟨CM0, CM1, CM2⟩ := CM.out.cs3
  by_cases he : e = 0
  · subst he
    have HFI2 := Lib.hid (HFI.out rfl); clear HFI
    have HFI := HFI2; clear HFI2
    go_wp2_with fail
    refine (kNum_any m Ax Ay cx cy _ Rx.out Ry.out HCx.out HCy.out).mono ?_
    rintro e w6 ⟨vz, vu, rfl, hnz, hnu, hbl⟩
    replace R1 := hmR R1 hbl
    replace R2 := hmR R2 hbl
    replace R3 := hmR R3 hbl
    replace R4 := hmR R4 hbl
    replace Rx := hmR Rx hbl
    replace HNx := hmN HNx hbl
    replace Ry := hmR Ry hbl
    replace HNy := hmN HNy hbl
    replace CX := hmB CX hbl
    replace CY := hmB CY hbl
    replace RES := hmB RES hbl
    replace CM := hmB CM hbl
    replace HW := hmW HW hbl; clear hbl
    clear CX0 CX1 CX2 CX3 CX4 CX5 CY0 CY1 CY2 CY3 CY4 CY5 CM0 CM1 CM2
    obtain ⟨CX0, CX1, CX2, CX3, CX4, CX5⟩ := CX.out.cs6
    obtain ⟨CY0, CY1, CY2, CY3, CY4, CY5⟩ := CY.out.cs6
    obtain ⟨CM0, CM1, CM2⟩ := CM.out.cs3
    have HNz := Lib.hid hnz; clear hnz
    obtain ⟨Az, cz, rfl, hcz, hrz⟩ := HNz.out.row
    have Rz := Lib.hid hrz; have HCz := Lib.hid hcz; clear hrz hcz
    have HNu := Lib.hid hnu; clear hnu
    obtain ⟨Au, cu, rfl, hcu, hru⟩ := HNu.out.row
    have Ru := Lib.hid hru; have HCu := Lib.hid hcu; clear hru hcu
    go_wp2_with fail
    refine (HFI.out _ Az Au cz cu Rz.out Ru.out HCz.out HCu.out).mono ?_
    rintro e w7 ⟨vx, vy, rfl, hx, hy, hbl⟩
    replace R1 := hmR R1 hbl
    replace R2 := hmR R2 hbl
    replace R3 := hmR R3 hbl
    replace R4 := hmR R4 hbl
    replace Rx := hmR Rx hbl
    replace HNx := hmN HNx hbl
    replace Ry := hmR Ry hbl
    replace HNy := hmN HNy hbl
    replace CX := hmB CX hbl
    replace CY := hmB CY hbl
    replace RES := hmB RES hbl
    replace CM := hmB CM hbl
    replace HW := hmW HW hbl; clear hbl
    clear CX0 CX1 CX2 CX3 CX4 CX5 CY0 CY1 CY2 CY3 CY4 CY5 CM0 CM1 CM2
    obtain ⟨CX0, CX1, CX2, CX3, CX4, CX5⟩ := CX.out.cs6
    obtain ⟨CY0, CY1, CY2, CY3, CY4, CY5⟩ := CY.out.cs6
    obtain ⟨CM0, CM1, CM2⟩ := CM.out.cs3
    obtain ⟨Ax, cx, rfl, hcx, hrx⟩ := hx.row
    obtain ⟨Ay, cy, rfl, hcy, hry⟩ := hy.row
    have HX := Lib.hid hx; have HY := Lib.hid hy; clear hx hy hcx hrx hcy hry
    obtain ⟨d0, d1, d2, d3, d4, d5⟩ := RES.out.cs6
    obtain ⟨f0, f1, f2, f3, f4, f5⟩ := RES.out.fz6
    go_wp2
    exact bodyPost_ret (results_row_tmp rfl _ _ (w.heap.size + 2) 27 _ (0, 0) _ _ rfl rfl (RES.out.put6 _ _ _ _ _ _) Tryz.underlying27 rfl (by kernel_rfl)) rfl ⟨_, _, rfl, (RdN.set6 RES.out rfl (HX.out) _ _ _ _ _ _), (RdN.set6 RES.out rfl (HY.out) _ _ _ _ _ _), (bel_set6 (g := w.heap.size + 2) HW.out (by omega) _ _ _ _ _ _)⟩
  · obtain ⟨rfl, rfl, rfl⟩ := HE2.out he
    have e1 : (r != 0) = true := by simpa using he
    have HE := Lib.hid he
    obtain ⟨d0, d1, d2, d3, d4, d5⟩ := RES.out.cs6
    obtain ⟨f0, f1, f2, f3, f4, f5⟩ := RES.out.fz6
    go_wp2
    exact bodyPost_ret (results_row_tmp rfl _ _ (w.heap.size + 2) 27 _ (0, 0) _ _ rfl rfl (RES.out.put6 _ _ _ _ _ _) Tryz.underlying27 rfl (by kernel_rfl)) rfl ⟨_, _, rfl, (RdN.set6 RES.out rfl (RdN.none0 _) _ _ _ _ _ _), (RdN.set6 RES.out rfl (RdN.none0 _) _ _ _ _ _ _), (bel_set6 (g := w.heap.size + 2) HW.out (by omega) _ _ _ _ _ _)⟩
set_option maxHeartbeats 4000000 in
theorem kShf_pos {kk r e : Int} {m v : Q} (op : ByteArray) (t : Int) (a b : Q) (A B A' B' : Option Addr) (c d c' d' : Nat) (w : World) (h1 : RdL w A (limbs a.n)) (h2 : RdL w B (limbs a.d)) (h3 : RdL w A' (limbs b.n)) (h4 : RdL w B' (limbs b.d)) (k1 : (limbs a.n).length ≤ c) (k2 : (limbs a.d).length ≤ d) (k3 : (limbs b.n).length ≤ c') (k4 : (limbs b.d).length ≤ d') (ha : a.n < Top ∧ a.d < Top ∧ QR a) (hb : b.n < Top ∧ b.d < Top ∧ QR b) (hbas : basB t = true) (hop : (op = ⟨#[60, 60]⟩ ∨ op = ⟨#[62, 62]⟩)) (hw : wholeB t = true) (hda : a.d = 1) (hdb : b.d = 1) (hs : b.s = false) (hb9 : ¬ b.n = 0 ∧ b.n ≤ 512) (hS : ∀ W, RdL W A (limbs a.n) → RdL W B (limbs a.d) → Calls Tryz.prog 48 #[.string op, .agg #[.bool a.s, .slice A (limbs a.n).length c, .slice B (limbs a.d).length d], .int .i64 (b.n : Int)] W (RetQE m e W)) (hF : e = 0 → ∀ W A B c d, RdL W A (limbs m.n) → RdL W B (limbs m.d) → (limbs m.n).length ≤ c → (limbs m.d).length ≤ d → Calls Tryz.prog 29 #[.agg #[.int .i64 3, .bool false, .string ⟨#[]⟩, .bool m.s, .slice A (limbs m.n).length c, .slice B (limbs m.d).length d], .int .i64 t] W (RetV kk false ⟨#[]⟩ v r W)) (hE2 : e ≠ 0 → v = noQ ∧ r = e ∧ kk = 0) :
 Calls Tryz.prog 15 #[.string op, .agg #[.int .i64 3, .bool false, .string ⟨#[]⟩, .bool a.s, .slice A (limbs a.n).length c, .slice B (limbs a.d).length d], .agg #[.int .i64 3, .bool false, .string ⟨#[]⟩, .bool b.s, .slice A' (limbs b.n).length c', .slice B' (limbs b.d).length d'], .int .i64 t] w (RetV kk false ⟨#[]⟩ v r w) := by
 have R1 := Lib.hid h1; clear h1
 have R2 := Lib.hid h2; clear h2
 have R3 := Lib.hid h3; clear h3
 have R4 := Lib.hid h4; clear h4
 have K4 := Lib.hid (And.intro k1 (And.intro k2 (And.intro k3 k4))); clear k1 k2 k3 k4
 have LA := Lib.hid ha; clear ha
 have LB := Lib.hid hb; clear hb
 have KB := Lib.hid (fun W => kBas_is t W hbas); clear hbas
 have KW := Lib.hid (fun W => kWhole_is t W hw); clear hw
 have HDA := Lib.hid (decide_eq_true hda); clear hda
 have HDB := Lib.hid (decide_eq_true hdb); clear hdb
 have hs1 : b.s = false := hs
 have HSH := Lib.hid hS; clear hS
 have HFI := Lib.hid hF; clear hF
 have HE2 := Lib.hid hE2; clear hE2
 have HB9 := Lib.hid hb9; clear hb9
 have HS0 := Lib.hid hs1; clear hs1 hs
 have hop2 : ((op.toList == [60, 60]) = true ∧ op.toList = [60, 60]) ∨ ((op.toList == [60, 60]) = false ∧ ¬ op.toList = [60, 60] ∧ (op.toList == [62, 62]) = true ∧ op.toList = [62, 62]) := by
  rcases hop with rfl | rfl
  · exact .inl (by decide +kernel)
  · exact .inr (by decide +kernel)
 clear hop
 obtain ⟨wa, hwa⟩ : ∃ wa, wa = ((w.alloc (.cells #[.int .i64 3, .bool false, .string ⟨#[]⟩, .bool a.s, .slice A (limbs a.n).length c, .slice B (limbs a.d).length d] 27)).alloc (.cells #[.int .i64 3, .bool false, .string ⟨#[]⟩, .bool b.s, .slice A' (limbs b.n).length c', .slice B' (limbs b.d).length d'] 27)).alloc (.cells #[.int .i64 0, .bool false, .string ⟨#[]⟩, .bool false, .slice none 0 0, .slice none 0 0] 27) := ⟨_, rfl⟩
 obtain ⟨hbl, CX, CY, RES⟩ := kal3 hwa
 replace R1 := hmR R1 hbl
 replace R2 := hmR R2 hbl
 replace R3 := hmR R3 hbl
 replace R4 := hmR R4 hbl
 have HW := Lib.hid hbl; clear hbl
 replace CX := Lib.hid CX
 replace CY := Lib.hid CY
 replace RES := Lib.hid RES
 go_enter Tryz.func15, Tryz.ntmps15
 go_upto_region 1 with fail
 rw [← hwa]
 clear hwa
 obtain ⟨CX0, CX1, CX2, CX3, CX4, CX5⟩ := CX.out.cs6
 obtain ⟨CY0, CY1, CY2, CY3, CY4, CY5⟩ := CY.out.cs6
 go_wp2_with fail
 refine (kRight_any 3 false ⟨#[]⟩ a.s A B c d (limbs a.n) (limbs a.d) _ R1.out R2.out (limbs_lim _) (limbs_lim _) (len18 LA.out.1) (len18 LA.out.2.1) K4.out.1 K4.out.2.1).mono ?_
 rintro e w1 ⟨rfl, hbl⟩
 replace R1 := hmR R1 hbl
 replace R2 := hmR R2 hbl
 replace R3 := hmR R3 hbl
 replace R4 := hmR R4 hbl
 replace CX := hmB CX hbl
 replace CY := hmB CY hbl
 replace RES := hmB RES hbl
 replace HW := hmW HW hbl; clear hbl
 clear CX0 CX1 CX2 CX3 CX4 CX5 CY0 CY1 CY2 CY3 CY4 CY5
 obtain ⟨CX0, CX1, CX2, CX3, CX4, CX5⟩ := CX.out.cs6
 obtain ⟨CY0, CY1, CY2, CY3, CY4, CY5⟩ := CY.out.cs6
 rw [rightV_num LA.out.1 LA.out.2.1 LA.out.2.2]
 go_wp2_with fail
 refine (kRight_any 3 false ⟨#[]⟩ b.s A' B' c' d' (limbs b.n) (limbs b.d) _ R3.out R4.out (limbs_lim _) (limbs_lim _) (len18 LB.out.1) (len18 LB.out.2.1) K4.out.2.2.1 K4.out.2.2.2).mono ?_
 rintro e w2 ⟨rfl, hbl⟩
 replace R1 := hmR R1 hbl
 replace R2 := hmR R2 hbl
 replace R3 := hmR R3 hbl
 replace R4 := hmR R4 hbl
 replace CX := hmB CX hbl
 replace CY := hmB CY hbl
 replace RES := hmB RES hbl
 replace HW := hmW HW hbl; clear hbl
 clear CX0 CX1 CX2 CX3 CX4 CX5 CY0 CY1 CY2 CY3 CY4 CY5
 obtain ⟨CX0, CX1, CX2, CX3, CX4, CX5⟩ := CX.out.cs6
 obtain ⟨CY0, CY1, CY2, CY3, CY4, CY5⟩ := CY.out.cs6
 rw [rightV_num LB.out.1 LB.out.2.1 LB.out.2.2]
 go_wp2_with fail
 refine (KB.out _).mono ?_
 rintro e wv ⟨rfl, hwv⟩
 obtain rfl := hwv.symm
 clear hwv
 rcases hop2 with ⟨p1, p2⟩ | ⟨p1, p2, p3, p4⟩
 all_goals
  go_wp2_with fail
  refine (KW.out _).mono ?_
  rintro e wv ⟨rfl, hwv⟩
  obtain rfl := hwv.symm
  clear hwv
  go_wp2_with fail
  refine (kIsW_num a A B c d _ R1.out R2.out K4.out.1 K4.out.2.1 LA.out.1 LA.out.2.1).mono ?_
  rintro e w3 ⟨rfl, hbl⟩
  replace R1 := hmR R1 hbl
  replace R2 := hmR R2 hbl
  replace R3 := hmR R3 hbl
  replace R4 := hmR R4 hbl
  replace CX := hmB CX hbl
  replace CY := hmB CY hbl
  replace RES := hmB RES hbl
  replace HW := hmW HW hbl; clear hbl
  clear CX0 CX1 CX2 CX3 CX4 CX5 CY0 CY1 CY2 CY3 CY4 CY5
  obtain ⟨CX0, CX1, CX2, CX3, CX4, CX5⟩ := CX.out.cs6
  obtain ⟨CY0, CY1, CY2, CY3, CY4, CY5⟩ := CY.out.cs6
  rw [HDA.out]
  go_wp2_with fail
  refine (kIsW_num b A' B' c' d' _ R3.out R4.out K4.out.2.2.1 K4.out.2.2.2 LB.out.1 LB.out.2.1).mono ?_
  rintro e w4 ⟨rfl, hbl⟩
  replace R1 := hmR R1 hbl
  replace R2 := hmR R2 hbl
  replace R3 := hmR R3 hbl
  replace R4 := hmR R4 hbl
  replace CX := hmB CX hbl
  replace CY := hmB CY hbl
  replace RES := hmB RES hbl
  replace HW := hmW HW hbl; clear hbl
  clear CX0 CX1 CX2 CX3 CX4 CX5 CY0 CY1 CY2 CY3 CY4 CY5
  obtain ⟨CX0, CX1, CX2, CX3, CX4, CX5⟩ := CX.out.cs6
  obtain ⟨CY0, CY1, CY2, CY3, CY4, CY5⟩ := CY.out.cs6
  rw [HDB.out]
  have hs1 := HS0.out
  have HLEN := Lib.hid (limbs_pos15 HB9.out.1)
  obtain ⟨ng, og, eA, hgl, hcl⟩ := R3.out.at_ HLEN.out
  obtain ⟨L0, hL0⟩ : ∃ L0, (limbs b.n).getD 0 0 = L0 := ⟨_, rfl⟩
  rw [hL0, Nat.add_zero] at hcl
  have HL0 := Lib.hid hL0; clear hL0
  subst eA
  have hln : (0 : Int) < ((limbs b.n).length : Int) := by have := HLEN.out; omega
  have hlen1 : (limbs b.n).length ≤ 1 := limbs_short15 (Nat.lt_of_le_of_lt HB9.out.2 (by decide))
  have hl1 : ¬ (1 : Int) < ((limbs b.n).length : Int) := by omega
  obtain ⟨y, hy⟩ : ∃ y, min (L0 : Int) 513 = y := ⟨_, rfl⟩
  have hyb : y = (b.n : Int) := by have h1 := HL0.out; rw [limb_one hlen1 HLEN.out] at h1; have := HB9.out.2; omega
  have hd9 : ¬ (512 : Int) < y := by have := HB9.out.2; omega
  have hyw : IntKind.i64.wrap y = y := by rw [IntKind.wrap_i64]; have := HB9.out.2; omega
  have HBY := Lib.hid hyb; clear hyb hlen1
  go_wp2_with fail
  rw [HBY.out]
  refine (HSH.out _ R1.out R2.out).mono ?_
  rintro e w5 ⟨vx, vy, rfl, hnx, hny, hbl⟩
  replace R1 := hmR R1 hbl
  replace R2 := hmR R2 hbl
  replace R3 := hmR R3 hbl
  replace R4 := hmR R4 hbl
  replace CX := hmB CX hbl
  replace CY := hmB CY hbl
  replace RES := hmB RES hbl
  replace HW := hmW HW hbl; clear hbl
  clear CX0 CX1 CX2 CX3 CX4 CX5 CY0 CY1 CY2 CY3 CY4 CY5
  obtain ⟨CX0, CX1, CX2, CX3, CX4, CX5⟩ := CX.out.cs6
  obtain ⟨CY0, CY1, CY2, CY3, CY4, CY5⟩ := CY.out.cs6
  have HNx := Lib.hid hnx; clear hnx
  obtain ⟨Ax, cx, rfl, hcx, hrx⟩ := HNx.out.row
  have Rx := Lib.hid hrx; have HCx := Lib.hid hcx; clear hrx hcx
  have HNy := Lib.hid hny; clear hny
  obtain ⟨Ay, cy, rfl, hcy, hry⟩ := HNy.out.row
  have Ry := Lib.hid hry; have HCy := Lib.hid hcy; clear hry hcy
  go_upto_region 11 with fail
  obtain ⟨w40, hw40⟩ : ∃ w40, w40 = w5.alloc (.cells #[.bool m.s, .slice Ax (limbs m.n).length cx, .slice Ay (limbs m.d).length cy] 25) := ⟨_, rfl⟩
  rw [← hw40]
  obtain ⟨hbl, CM⟩ := sal1 hw40
  clear hw40
  replace R1 := hmR R1 hbl
  replace R2 := hmR R2 hbl
  replace R3 := hmR R3 hbl
  replace R4 := hmR R4 hbl
  replace Rx := hmR Rx hbl
  replace HNx := hmN HNx hbl
  replace Ry := hmR Ry hbl
  replace HNy := hmN HNy hbl
  replace CX := hmB CX hbl
  replace CY := hmB CY hbl
  replace RES := hmB RES hbl
  replace HW := hmW HW hbl; clear hbl
  clear CX0 CX1 CX2 CX3 CX4 CX5 CY0 CY1 CY2 CY3 CY4 CY5
  obtain ⟨CX0, CX1, CX2, CX3, CX4, CX5⟩ := CX.out.cs6
  obtain ⟨CY0, CY1, CY2, CY3, CY4, CY5⟩ := CY.out.cs6
  obtain ⟨CM0, CM1, CM2⟩ := CM.out.cs3
  by_cases he : e = 0
  · subst he
    have HFI2 := Lib.hid (HFI.out rfl); clear HFI
    have HFI := HFI2; clear HFI2
    go_wp2_with fail
    refine (kNum_any m Ax Ay cx cy _ Rx.out Ry.out HCx.out HCy.out).mono ?_
    rintro e w6 ⟨vz, vu, rfl, hnz, hnu, hbl⟩
    replace R1 := hmR R1 hbl
    replace R2 := hmR R2 hbl
    replace R3 := hmR R3 hbl
    replace R4 := hmR R4 hbl
    replace Rx := hmR Rx hbl
    replace HNx := hmN HNx hbl
    replace Ry := hmR Ry hbl
    replace HNy := hmN HNy hbl
    replace CX := hmB CX hbl
    replace CY := hmB CY hbl
    replace RES := hmB RES hbl
    replace CM := hmB CM hbl
    replace HW := hmW HW hbl; clear hbl
    clear CX0 CX1 CX2 CX3 CX4 CX5 CY0 CY1 CY2 CY3 CY4 CY5 CM0 CM1 CM2
    obtain ⟨CX0, CX1, CX2, CX3, CX4, CX5⟩ := CX.out.cs6
    obtain ⟨CY0, CY1, CY2, CY3, CY4, CY5⟩ := CY.out.cs6
    obtain ⟨CM0, CM1, CM2⟩ := CM.out.cs3
    have HNz := Lib.hid hnz; clear hnz
    obtain ⟨Az, cz, rfl, hcz, hrz⟩ := HNz.out.row
    have Rz := Lib.hid hrz; have HCz := Lib.hid hcz; clear hrz hcz
    have HNu := Lib.hid hnu; clear hnu
    obtain ⟨Au, cu, rfl, hcu, hru⟩ := HNu.out.row
    have Ru := Lib.hid hru; have HCu := Lib.hid hcu; clear hru hcu
    go_wp2_with fail
    refine (HFI.out _ Az Au cz cu Rz.out Ru.out HCz.out HCu.out).mono ?_
    rintro e w7 ⟨vx, vy, rfl, hx, hy, hbl⟩
    replace R1 := hmR R1 hbl
    replace R2 := hmR R2 hbl
    replace R3 := hmR R3 hbl
    replace R4 := hmR R4 hbl
    replace Rx := hmR Rx hbl
    replace HNx := hmN HNx hbl
    replace Ry := hmR Ry hbl
    replace HNy := hmN HNy hbl
    replace CX := hmB CX hbl
    replace CY := hmB CY hbl
    replace RES := hmB RES hbl
    replace CM := hmB CM hbl
    replace HW := hmW HW hbl; clear hbl
    clear CX0 CX1 CX2 CX3 CX4 CX5 CY0 CY1 CY2 CY3 CY4 CY5 CM0 CM1 CM2
    obtain ⟨CX0, CX1, CX2, CX3, CX4, CX5⟩ := CX.out.cs6
    obtain ⟨CY0, CY1, CY2, CY3, CY4, CY5⟩ := CY.out.cs6
    obtain ⟨CM0, CM1, CM2⟩ := CM.out.cs3
    obtain ⟨Ax, cx, rfl, hcx, hrx⟩ := hx.row
    obtain ⟨Ay, cy, rfl, hcy, hry⟩ := hy.row
    have HX := Lib.hid hx; have HY := Lib.hid hy; clear hx hy hcx hrx hcy hry
    obtain ⟨d0, d1, d2, d3, d4, d5⟩ := RES.out.cs6
    obtain ⟨f0, f1, f2, f3, f4, f5⟩ := RES.out.fz6
    go_wp2
    exact bodyPost_ret (results_row_tmp rfl _ _ (w.heap.size + 2) 27 _ (0, 0) _ _ rfl rfl (RES.out.put6 _ _ _ _ _ _) Tryz.underlying27 rfl (by kernel_rfl)) rfl ⟨_, _, rfl, (RdN.set6 RES.out rfl (HX.out) _ _ _ _ _ _), (RdN.set6 RES.out rfl (HY.out) _ _ _ _ _ _), (bel_set6 (g := w.heap.size + 2) HW.out (by omega) _ _ _ _ _ _)⟩
  · obtain ⟨rfl, rfl, rfl⟩ := HE2.out he
    have e1 : (r != 0) = true := by simpa using he
    have HE := Lib.hid he
    obtain ⟨d0, d1, d2, d3, d4, d5⟩ := RES.out.cs6
    obtain ⟨f0, f1, f2, f3, f4, f5⟩ := RES.out.fz6
    go_wp2
    exact bodyPost_ret (results_row_tmp rfl _ _ (w.heap.size + 2) 27 _ (0, 0) _ _ rfl rfl (RES.out.put6 _ _ _ _ _ _) Tryz.underlying27 rfl (by kernel_rfl)) rfl ⟨_, _, rfl, (RdN.set6 RES.out rfl (RdN.none0 _) _ _ _ _ _ _), (RdN.set6 RES.out rfl (RdN.none0 _) _ _ _ _ _ _), (bel_set6 (g := w.heap.size + 2) HW.out (by omega) _ _ _ _ _ _)⟩
end
end Go.Proofs.YtmbbdjpnecjleaaGreat
