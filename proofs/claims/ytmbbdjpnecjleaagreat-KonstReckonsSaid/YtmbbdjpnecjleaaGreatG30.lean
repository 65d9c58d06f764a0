/-
 Parts: K18 K20.
-/
import Derived.Test.YtmbbdjpnecjleaaGreatG21
import Derived.Test.YtmbbdjpnecjleaaGreatG27
import Derived.Test.YtmbbdjpnecjleaaGreatG29
import Derived.BigQuiet
namespace Go.Proofs.YtmbbdjpnecjleaaGreat
section
set_option maxRecDepth 100000
set_option maxHeartbeats 1000000
open Go.RowKit

theorem Blk.put8 {w : World} {g : Nat} {t : TypeId} {a b c d e f o p : Value} (h : Blk w g t #[a, b, c, d, e, f, o, p]) (x y z u v k l m : Value) :
 Blk ((((((((w.setCell ⟨g, 0, none⟩ x).setCell ⟨g, 1, none⟩ y).setCell ⟨g, 2, none⟩ z).setCell ⟨g, 3, none⟩ u).setCell ⟨g, 4, none⟩ v).setCell ⟨g, 5, none⟩ k).setCell ⟨g, 6, none⟩ l).setCell ⟨g, 7, none⟩ m) g t #[x, y, z, u, v, k, l, m] := by
 have h : Blk (w.setCell ⟨g, 0, none⟩ x) g t #[x, b, c, d, e, f, o, p] := h.put 0 x
 have h : Blk ((w.setCell ⟨g, 0, none⟩ x).setCell ⟨g, 1, none⟩ y) g t #[x, y, c, d, e, f, o, p] := h.put 1 y
 have h : Blk (((w.setCell ⟨g, 0, none⟩ x).setCell ⟨g, 1, none⟩ y).setCell ⟨g, 2, none⟩ z) g t #[x, y, z, d, e, f, o, p] := h.put 2 z
 have h : Blk ((((w.setCell ⟨g, 0, none⟩ x).setCell ⟨g, 1, none⟩ y).setCell ⟨g, 2, none⟩ z).setCell ⟨g, 3, none⟩ u) g t #[x, y, z, u, e, f, o, p] := h.put 3 u
 have h : Blk (((((w.setCell ⟨g, 0, none⟩ x).setCell ⟨g, 1, none⟩ y).setCell ⟨g, 2, none⟩ z).setCell ⟨g, 3, none⟩ u).setCell ⟨g, 4, none⟩ v) g t #[x, y, z, u, v, f, o, p] := h.put 4 v
 have h : Blk ((((((w.setCell ⟨g, 0, none⟩ x).setCell ⟨g, 1, none⟩ y).setCell ⟨g, 2, none⟩ z).setCell ⟨g, 3, none⟩ u).setCell ⟨g, 4, none⟩ v).setCell ⟨g, 5, none⟩ k) g t #[x, y, z, u, v, k, o, p] := h.put 5 k
 have h : Blk (((((((w.setCell ⟨g, 0, none⟩ x).setCell ⟨g, 1, none⟩ y).setCell ⟨g, 2, none⟩ z).setCell ⟨g, 3, none⟩ u).setCell ⟨g, 4, none⟩ v).setCell ⟨g, 5, none⟩ k).setCell ⟨g, 6, none⟩ l) g t #[x, y, z, u, v, k, l, p] := h.put 6 l
 have h : Blk ((((((((w.setCell ⟨g, 0, none⟩ x).setCell ⟨g, 1, none⟩ y).setCell ⟨g, 2, none⟩ z).setCell ⟨g, 3, none⟩ u).setCell ⟨g, 4, none⟩ v).setCell ⟨g, 5, none⟩ k).setCell ⟨g, 6, none⟩ l).setCell ⟨g, 7, none⟩ m) g t #[x, y, z, u, v, k, l, m] := h.put 7 m
 exact h
theorem bel_set8 {w wk : World} {g : Nat} (h : Below w.heap.size w wk) (hg : w.heap.size ≤ g) (x y z u v k l m : Value) :
 Below w.heap.size w ((((((((wk.setCell ⟨g, 0, none⟩ x).setCell ⟨g, 1, none⟩ y).setCell ⟨g, 2, none⟩ z).setCell ⟨g, 3, none⟩ u).setCell ⟨g, 4, none⟩ v).setCell ⟨g, 5, none⟩ k).setCell ⟨g, 6, none⟩ l).setCell ⟨g, 7, none⟩ m) := ((((((((h.setCell hg x).setCell hg y).setCell hg z).setCell hg u).setCell hg v).setCell hg k).setCell hg l).setCell hg m)
theorem rFits_err {k e : Int} {b fs : Bool} {s n d : ByteArray} (t : Int) (w : World) (he : ¬ e = 0) :
 Calls Tryz.prog 41 #[.agg #[.int .i64 k, .bool b, .string s, .bool fs, .string n, .string d, .bool false, .int .i64 e], .int .i64 t] w (RetRV k b s fs n d e w) := by
 have e1 : (e != 0) = true := by simpa using he
 have e2 : ¬ e = 0 := he
 have HE := Lib.hid he; clear he
 obtain ⟨wa, hwa⟩ : ∃ wa, wa = (w.alloc (.cells #[.int .i64 k, .bool b, .string s, .bool fs, .string n, .string d, .bool false, .int .i64 e] 39)).alloc (.cells #[.int .i64 0, .bool false, .string ⟨#[]⟩, .bool false, .string ⟨#[]⟩, .string ⟨#[]⟩, .bool false, .int .i64 0] 39) := ⟨_, rfl⟩
 obtain ⟨hbl, CX, RES⟩ := kal2 hwa
 have HW := Lib.hid hbl; clear hbl
 replace CX := Lib.hid CX
 replace RES := Lib.hid RES
 go_enter Tryz.func41, Tryz.ntmps41
 go_upto_region 1 with fail
 rw [← hwa]
 clear hwa
 obtain ⟨CX0, CX1, CX2, CX3, CX4, CX5, CX6, CX7⟩ := CX.out.cs8
 obtain ⟨d0, d1, d2, d3, d4, d5, d6, d7⟩ := RES.out.cs8
 obtain ⟨f0, f1, f2, f3, f4, f5, f6, f7⟩ := RES.out.fz8
 go_wp2
 exact bodyPost_ret (results_cell_row rfl _ _ (w.heap.size + 1) 39 _ (0, 0) _ rfl (RES.out.put8 _ _ _ _ _ _ _ _) Tryz.underlying39 rfl (by kernel_rfl)) rfl ⟨rfl, (bel_set8 (g := w.heap.size + 1) HW.out (by omega) _ _ _ _ _ _ _ _)⟩
theorem rFits_type {k : Int} {b fs : Bool} {s n d : ByteArray} (t K : Int) (w : World) (hK : kindI t = K) (hne : ¬ k = K) :
 Calls Tryz.prog 41 #[.agg #[.int .i64 k, .bool b, .string s, .bool fs, .string n, .string d, .bool false, .int .i64 0], .int .i64 t] w (RetRV 0 false ⟨#[]⟩ false ⟨#[]⟩ ⟨#[]⟩ 11 w) := by
 have KK := Lib.hid (fun W => rKind_is t W hK); clear hK
 have hne1 : (k != K) = true := by simpa using hne
 have HK9 := Lib.hid hne
 obtain ⟨wa, hwa⟩ : ∃ wa, wa = (w.alloc (.cells #[.int .i64 k, .bool b, .string s, .bool fs, .string n, .string d, .bool false, .int .i64 0] 39)).alloc (.cells #[.int .i64 0, .bool false, .string ⟨#[]⟩, .bool false, .string ⟨#[]⟩, .string ⟨#[]⟩, .bool false, .int .i64 0] 39) := ⟨_, rfl⟩
 obtain ⟨hbl, CX, RES⟩ := kal2 hwa
 have HW := Lib.hid hbl; clear hbl
 replace CX := Lib.hid CX
 replace RES := Lib.hid RES
 go_enter Tryz.func41, Tryz.ntmps41
 go_upto_region 1 with fail
 rw [← hwa]
 clear hwa
 obtain ⟨CX0, CX1, CX2, CX3, CX4, CX5, CX6, CX7⟩ := CX.out.cs8
 go_upto_region 3 with fail
 go_quiet (first | (go_at_call 73; exact Calls.quiet_of_same (KK.out _)))
 obtain ⟨wd, hwd⟩ : ∃ wd, wd = wa.drewN nq := ⟨_, rfl⟩
 have hbl : Below wa.heap.size wa wd := by rw [hwd]; exact bel_drewN (bel_refl _) _
 rw [← hwd]
 clear hwd
 replace CX := hmB CX hbl
 replace RES := hmB RES hbl
 replace HW := hmW HW hbl; clear hbl
 clear CX0 CX1 CX2 CX3 CX4 CX5 CX6 CX7
 obtain ⟨CX0, CX1, CX2, CX3, CX4, CX5, CX6, CX7⟩ := CX.out.cs8
 obtain ⟨d0, d1, d2, d3, d4, d5, d6, d7⟩ := RES.out.cs8
 obtain ⟨f0, f1, f2, f3, f4, f5, f6, f7⟩ := RES.out.fz8
 go_wp2
 exact bodyPost_ret (results_cell_row rfl _ _ (w.heap.size + 1) 39 _ (0, 0) _ rfl (RES.out.put8 _ _ _ _ _ _ _ _) Tryz.underlying39 rfl (by kernel_rfl)) rfl ⟨rfl, (bel_set8 (g := w.heap.size + 1) HW.out (by omega) _ _ _ _ _ _ _ _)⟩
theorem rFits_frac (q : Q) (t : Int) (w : World) (hK : kindI t = 3) (hw : wholeB t = true) (hd1 : ¬ q.d = 1) :
 Calls Tryz.prog 41 #[.agg #[.int .i64 3, .bool false, .string ⟨#[]⟩, .bool q.s, .string (dec q.n), .string (dec q.d), .bool false, .int .i64 0], .int .i64 t] w (RetRV 0 false ⟨#[]⟩ false ⟨#[]⟩ ⟨#[]⟩ 2 w) := by
 have KK := Lib.hid (fun W => rKind_is t W hK); clear hK
 have KW := Lib.hid (fun W => rWhole_is t W hw); clear hw
 have HD := Lib.hid hd1; clear hd1
 obtain ⟨wa, hwa⟩ : ∃ wa, wa = (w.alloc (.cells #[.int .i64 3, .bool false, .string ⟨#[]⟩, .bool q.s, .string (dec q.n), .string (dec q.d), .bool false, .int .i64 0] 39)).alloc (.cells #[.int .i64 0, .bool false, .string ⟨#[]⟩, .bool false, .string ⟨#[]⟩, .string ⟨#[]⟩, .bool false, .int .i64 0] 39) := ⟨_, rfl⟩
 obtain ⟨hbl, CX, RES⟩ := kal2 hwa
 have HW := Lib.hid hbl; clear hbl
 replace CX := Lib.hid CX
 replace RES := Lib.hid RES
 go_enter Tryz.func41, Tryz.ntmps41
 go_upto_region 1 with fail
 rw [← hwa]
 clear hwa
 obtain ⟨CX0, CX1, CX2, CX3, CX4, CX5, CX6, CX7⟩ := CX.out.cs8
 go_upto_region 3 with fail
 go_quiet (first | (go_at_call 73; exact Calls.quiet_of_same (KK.out _)))
 obtain ⟨wd, hwd⟩ : ∃ wd, wd = wa.drewN nq := ⟨_, rfl⟩
 have hbl : Below wa.heap.size wa wd := by rw [hwd]; exact bel_drewN (bel_refl _) _
 rw [← hwd]
 clear hwd
 replace CX := hmB CX hbl
 replace RES := hmB RES hbl
 replace HW := hmW HW hbl; clear hbl
 clear CX0 CX1 CX2 CX3 CX4 CX5 CX6 CX7
 obtain ⟨CX0, CX1, CX2, CX3, CX4, CX5, CX6, CX7⟩ := CX.out.cs8
 go_wp2_with fail
 refine (KW.out _).mono ?_
 rintro e wv ⟨rfl, hwv⟩
 obtain rfl := hwv.symm
 clear hwv
 go_wp2_with fail
 refine (rIsW_no q _ HD.out).mono ?_
 rintro e w1 ⟨rfl, hbl⟩
 replace CX := hmB CX hbl
 replace RES := hmB RES hbl
 replace HW := hmW HW hbl; clear hbl
 clear CX0 CX1 CX2 CX3 CX4 CX5 CX6 CX7
 obtain ⟨CX0, CX1, CX2, CX3, CX4, CX5, CX6, CX7⟩ := CX.out.cs8
 obtain ⟨d0, d1, d2, d3, d4, d5, d6, d7⟩ := RES.out.cs8
 obtain ⟨f0, f1, f2, f3, f4, f5, f6, f7⟩ := RES.out.fz8
 go_wp2
 exact bodyPost_ret (results_cell_row rfl _ _ (w.heap.size + 1) 39 _ (0, 0) _ rfl (RES.out.put8 _ _ _ _ _ _ _ _) Tryz.underlying39 rfl (by kernel_rfl)) rfl ⟨rfl, (bel_set8 (g := w.heap.size + 1) HW.out (by omega) _ _ _ _ _ _ _ _)⟩
theorem rFits_not (q : Q) (t : Int) (w : World) (hK : kindI t = 3) (hw : wholeB t = true) (hd1 : q.d = 1) (h0t : 0 ≤ t) (hh : holdsB q.s q.n t = false) :
 Calls Tryz.prog 41 #[.agg #[.int .i64 3, .bool false, .string ⟨#[]⟩, .bool q.s, .string (dec q.n), .string (dec q.d), .bool false, .int .i64 0], .int .i64 t] w (RetRV 0 false ⟨#[]⟩ false ⟨#[]⟩ ⟨#[]⟩ 2 w) := by
 have KK := Lib.hid (fun W => rKind_is t W hK); clear hK
 have KW := Lib.hid (fun W => rWhole_is t W hw); clear hw
 have HD := Lib.hid hd1; clear hd1
 have KH := Lib.hid (fun W => rHolds_is q.s q t W h0t hh); clear hh h0t
 obtain ⟨wa, hwa⟩ : ∃ wa, wa = (w.alloc (.cells #[.int .i64 3, .bool false, .string ⟨#[]⟩, .bool q.s, .string (dec q.n), .string (dec q.d), .bool false, .int .i64 0] 39)).alloc (.cells #[.int .i64 0, .bool false, .string ⟨#[]⟩, .bool false, .string ⟨#[]⟩, .string ⟨#[]⟩, .bool false, .int .i64 0] 39) := ⟨_, rfl⟩
 obtain ⟨hbl, CX, RES⟩ := kal2 hwa
 have HW := Lib.hid hbl; clear hbl
 replace CX := Lib.hid CX
 replace RES := Lib.hid RES
 go_enter Tryz.func41, Tryz.ntmps41
 go_upto_region 1 with fail
 rw [← hwa]
 clear hwa
 obtain ⟨CX0, CX1, CX2, CX3, CX4, CX5, CX6, CX7⟩ := CX.out.cs8
 go_upto_region 3 with fail
 go_quiet (first | (go_at_call 73; exact Calls.quiet_of_same (KK.out _)))
 obtain ⟨wd, hwd⟩ : ∃ wd, wd = wa.drewN nq := ⟨_, rfl⟩
 have hbl : Below wa.heap.size wa wd := by rw [hwd]; exact bel_drewN (bel_refl _) _
 rw [← hwd]
 clear hwd
 replace CX := hmB CX hbl
 replace RES := hmB RES hbl
 replace HW := hmW HW hbl; clear hbl
 clear CX0 CX1 CX2 CX3 CX4 CX5 CX6 CX7
 obtain ⟨CX0, CX1, CX2, CX3, CX4, CX5, CX6, CX7⟩ := CX.out.cs8
 go_wp2_with fail
 refine (KW.out _).mono ?_
 rintro e wv ⟨rfl, hwv⟩
 obtain rfl := hwv.symm
 clear hwv
 go_wp2_with fail
 refine (rIsW_yes q _ HD.out).mono ?_
 rintro e w1 ⟨rfl, hbl⟩
 replace CX := hmB CX hbl
 replace RES := hmB RES hbl
 replace HW := hmW HW hbl; clear hbl
 clear CX0 CX1 CX2 CX3 CX4 CX5 CX6 CX7
 obtain ⟨CX0, CX1, CX2, CX3, CX4, CX5, CX6, CX7⟩ := CX.out.cs8
 go_wp2_with fail
 refine (KH.out _).mono ?_
 rintro e w2 ⟨rfl, hbl⟩
 replace CX := hmB CX hbl
 replace RES := hmB RES hbl
 replace HW := hmW HW hbl; clear hbl
 clear CX0 CX1 CX2 CX3 CX4 CX5 CX6 CX7
 obtain ⟨CX0, CX1, CX2, CX3, CX4, CX5, CX6, CX7⟩ := CX.out.cs8
 obtain ⟨d0, d1, d2, d3, d4, d5, d6, d7⟩ := RES.out.cs8
 obtain ⟨f0, f1, f2, f3, f4, f5, f6, f7⟩ := RES.out.fz8
 go_wp2
 exact bodyPost_ret (results_cell_row rfl _ _ (w.heap.size + 1) 39 _ (0, 0) _ rfl (RES.out.put8 _ _ _ _ _ _ _ _) Tryz.underlying39 rfl (by kernel_rfl)) rfl ⟨rfl, (bel_set8 (g := w.heap.size + 1) HW.out (by omega) _ _ _ _ _ _ _ _)⟩
theorem rFits_yes (q : Q) (t : Int) (w : World) (hK : kindI t = 3) (hw : wholeB t = true) (hd1 : q.d = 1) (h0t : 0 ≤ t) (hh : holdsB q.s q.n t = true) (h12 : ¬ t = 12) (h13 : ¬ t = 13) :
 Calls Tryz.prog 41 #[.agg #[.int .i64 3, .bool false, .string ⟨#[]⟩, .bool q.s, .string (dec q.n), .string (dec q.d), .bool false, .int .i64 0], .int .i64 t] w (RetRV 3 false ⟨#[]⟩ q.s (dec q.n) (dec q.d) 0 w) := by
 have KK := Lib.hid (fun W => rKind_is t W hK); clear hK
 have KW := Lib.hid (fun W => rWhole_is t W hw); clear hw
 have HD := Lib.hid hd1; clear hd1
 have KH := Lib.hid (fun W => rHolds_is q.s q t W h0t hh); clear hh h0t
 have n1 : (t == 12) = false := kd_ne h12
 have n2 : (t == 13) = false := kd_ne h13
 obtain ⟨wa, hwa⟩ : ∃ wa, wa = (w.alloc (.cells #[.int .i64 3, .bool false, .string ⟨#[]⟩, .bool q.s, .string (dec q.n), .string (dec q.d), .bool false, .int .i64 0] 39)).alloc (.cells #[.int .i64 0, .bool false, .string ⟨#[]⟩, .bool false, .string ⟨#[]⟩, .string ⟨#[]⟩, .bool false, .int .i64 0] 39) := ⟨_, rfl⟩
 obtain ⟨hbl, CX, RES⟩ := kal2 hwa
 have HW := Lib.hid hbl; clear hbl
 replace CX := Lib.hid CX
 replace RES := Lib.hid RES
 go_enter Tryz.func41, Tryz.ntmps41
 go_upto_region 1 with fail
 rw [← hwa]
 clear hwa
 obtain ⟨CX0, CX1, CX2, CX3, CX4, CX5, CX6, CX7⟩ := CX.out.cs8
 go_upto_region 3 with fail
 go_quiet (first | (go_at_call 73; exact Calls.quiet_of_same (KK.out _)))
 obtain ⟨wd, hwd⟩ : ∃ wd, wd = wa.drewN nq := ⟨_, rfl⟩
 have hbl : Below wa.heap.size wa wd := by rw [hwd]; exact bel_drewN (bel_refl _) _
 rw [← hwd]
 clear hwd
 replace CX := hmB CX hbl
 replace RES := hmB RES hbl
 replace HW := hmW HW hbl; clear hbl
 clear CX0 CX1 CX2 CX3 CX4 CX5 CX6 CX7
 obtain ⟨CX0, CX1, CX2, CX3, CX4, CX5, CX6, CX7⟩ := CX.out.cs8
 go_wp2_with fail
 refine (KW.out _).mono ?_
 rintro e wv ⟨rfl, hwv⟩
 obtain rfl := hwv.symm
 clear hwv
 go_wp2_with fail
 refine (rIsW_yes q _ HD.out).mono ?_
 rintro e w1 ⟨rfl, hbl⟩
 replace CX := hmB CX hbl
 replace RES := hmB RES hbl
 replace HW := hmW HW hbl; clear hbl
 clear CX0 CX1 CX2 CX3 CX4 CX5 CX6 CX7
 obtain ⟨CX0, CX1, CX2, CX3, CX4, CX5, CX6, CX7⟩ := CX.out.cs8
 go_wp2_with fail
 refine (KH.out _).mono ?_
 rintro e w2 ⟨rfl, hbl⟩
 replace CX := hmB CX hbl
 replace RES := hmB RES hbl
 replace HW := hmW HW hbl; clear hbl
 clear CX0 CX1 CX2 CX3 CX4 CX5 CX6 CX7
 obtain ⟨CX0, CX1, CX2, CX3, CX4, CX5, CX6, CX7⟩ := CX.out.cs8
 obtain ⟨d0, d1, d2, d3, d4, d5, d6, d7⟩ := RES.out.cs8
 obtain ⟨f0, f1, f2, f3, f4, f5, f6, f7⟩ := RES.out.fz8
 go_wp2
 exact bodyPost_ret (results_cell_row rfl _ _ (w.heap.size + 1) 39 _ (0, 0) _ rfl (RES.out.put8 _ _ _ _ _ _ _ _) Tryz.underlying39 rfl (by kernel_rfl)) rfl ⟨rfl, (bel_set8 (g := w.heap.size + 1) HW.out (by omega) _ _ _ _ _ _ _ _)⟩
theorem rFits_free (q : Q) (t : Int) (w : World) (hK : kindI t = 3) (hw : wholeB t = false) (h12 : ¬ t = 12) (h13 : ¬ t = 13) :
 Calls Tryz.prog 41 #[.agg #[.int .i64 3, .bool false, .string ⟨#[]⟩, .bool q.s, .string (dec q.n), .string (dec q.d), .bool false, .int .i64 0], .int .i64 t] w (RetRV 3 false ⟨#[]⟩ q.s (dec q.n) (dec q.d) 0 w) := by
 have KK := Lib.hid (fun W => rKind_is t W hK); clear hK
 have KW := Lib.hid (fun W => rWhole_is t W hw); clear hw
 have n1 : (t == 12) = false := kd_ne h12
 have n2 : (t == 13) = false := kd_ne h13
 obtain ⟨wa, hwa⟩ : ∃ wa, wa = (w.alloc (.cells #[.int .i64 3, .bool false, .string ⟨#[]⟩, .bool q.s, .string (dec q.n), .string (dec q.d), .bool false, .int .i64 0] 39)).alloc (.cells #[.int .i64 0, .bool false, .string ⟨#[]⟩, .bool false, .string ⟨#[]⟩, .string ⟨#[]⟩, .bool false, .int .i64 0] 39) := ⟨_, rfl⟩
 obtain ⟨hbl, CX, RES⟩ := kal2 hwa
 have HW := Lib.hid hbl; clear hbl
 replace CX := Lib.hid CX
 replace RES := Lib.hid RES
 go_enter Tryz.func41, Tryz.ntmps41
 go_upto_region 1 with fail
 rw [← hwa]
 clear hwa
 obtain ⟨CX0, CX1, CX2, CX3, CX4, CX5, CX6, CX7⟩ := CX.out.cs8
 go_upto_region 3 with fail
 go_quiet (first | (go_at_call 73; exact Calls.quiet_of_same (KK.out _)))
 obtain ⟨wd, hwd⟩ : ∃ wd, wd = wa.drewN nq := ⟨_, rfl⟩
 have hbl : Below wa.heap.size wa wd := by rw [hwd]; exact bel_drewN (bel_refl _) _
 rw [← hwd]
 clear hwd
 replace CX := hmB CX hbl
 replace RES := hmB RES hbl
 replace HW := hmW HW hbl; clear hbl
 clear CX0 CX1 CX2 CX3 CX4 CX5 CX6 CX7
 obtain ⟨CX0, CX1, CX2, CX3, CX4, CX5, CX6, CX7⟩ := CX.out.cs8
 go_wp2_with fail
 refine (KW.out _).mono ?_
 rintro e wv ⟨rfl, hwv⟩
 obtain rfl := hwv.symm
 clear hwv
 obtain ⟨d0, d1, d2, d3, d4, d5, d6, d7⟩ := RES.out.cs8
 obtain ⟨f0, f1, f2, f3, f4, f5, f6, f7⟩ := RES.out.fz8
 go_wp2
 exact bodyPost_ret (results_cell_row rfl _ _ (w.heap.size + 1) 39 _ (0, 0) _ rfl (RES.out.put8 _ _ _ _ _ _ _ _) Tryz.underlying39 rfl (by kernel_rfl)) rfl ⟨rfl, (bel_set8 (g := w.heap.size + 1) HW.out (by omega) _ _ _ _ _ _ _ _)⟩
theorem rFits_f32 {k e : Int} {b fs : Bool} {s n d : ByteArray} (q : Q) (w : World) (hF : ∀ W, Calls Tryz.prog 75 #[.agg #[.bool q.s, .string (dec q.n), .string (dec q.d), .bool false], .int .i64 32] W (RetRV k b s fs n d e W)) :
 Calls Tryz.prog 41 #[.agg #[.int .i64 3, .bool false, .string ⟨#[]⟩, .bool q.s, .string (dec q.n), .string (dec q.d), .bool false, .int .i64 0], .int .i64 12] w (RetRV k b s fs n d e w) := by
 have HFL := Lib.hid hF; clear hF
 have KK := Lib.hid (fun W => rKind_is 12 W rfl)
 have KW := Lib.hid (fun W => rWhole_is 12 W rfl)
 obtain ⟨wa, hwa⟩ : ∃ wa, wa = (w.alloc (.cells #[.int .i64 3, .bool false, .string ⟨#[]⟩, .bool q.s, .string (dec q.n), .string (dec q.d), .bool false, .int .i64 0] 39)).alloc (.cells #[.int .i64 0, .bool false, .string ⟨#[]⟩, .bool false, .string ⟨#[]⟩, .string ⟨#[]⟩, .bool false, .int .i64 0] 39) := ⟨_, rfl⟩
 obtain ⟨hbl, CX, RES⟩ := kal2 hwa
 have HW := Lib.hid hbl; clear hbl
 replace CX := Lib.hid CX
 replace RES := Lib.hid RES
 go_enter Tryz.func41, Tryz.ntmps41
 go_upto_region 1 with fail
 rw [← hwa]
 clear hwa
 obtain ⟨CX0, CX1, CX2, CX3, CX4, CX5, CX6, CX7⟩ := CX.out.cs8
 go_upto_region 3 with fail
 go_quiet (first | (go_at_call 73; exact Calls.quiet_of_same (KK.out _)))
 obtain ⟨wd, hwd⟩ : ∃ wd, wd = wa.drewN nq := ⟨_, rfl⟩
 have hbl : Below wa.heap.size wa wd := by rw [hwd]; exact bel_drewN (bel_refl _) _
 rw [← hwd]
 clear hwd
 replace CX := hmB CX hbl
 replace RES := hmB RES hbl
 replace HW := hmW HW hbl; clear hbl
 clear CX0 CX1 CX2 CX3 CX4 CX5 CX6 CX7
 obtain ⟨CX0, CX1, CX2, CX3, CX4, CX5, CX6, CX7⟩ := CX.out.cs8
 go_wp2_with fail
 refine (KW.out _).mono ?_
 rintro e wv ⟨rfl, hwv⟩
 obtain rfl := hwv.symm
 clear hwv
 go_wp2_with fail
 refine (HFL.out _).mono ?_
 rintro e w1 ⟨rfl, hbl⟩
 replace CX := hmB CX hbl
 replace RES := hmB RES hbl
 replace HW := hmW HW hbl; clear hbl
 clear CX0 CX1 CX2 CX3 CX4 CX5 CX6 CX7
 obtain ⟨CX0, CX1, CX2, CX3, CX4, CX5, CX6, CX7⟩ := CX.out.cs8
 obtain ⟨d0, d1, d2, d3, d4, d5, d6, d7⟩ := RES.out.cs8
 obtain ⟨f0, f1, f2, f3, f4, f5, f6, f7⟩ := RES.out.fz8
 go_wp2
 exact bodyPost_ret (results_cell_row rfl _ _ (w.heap.size + 1) 39 _ (0, 0) _ rfl (RES.out.put8 _ _ _ _ _ _ _ _) Tryz.underlying39 rfl (by kernel_rfl)) rfl ⟨rfl, (bel_set8 (g := w.heap.size + 1) HW.out (by omega) _ _ _ _ _ _ _ _)⟩
theorem rFits_f64 {k e : Int} {b fs : Bool} {s n d : ByteArray} (q : Q) (w : World) (hF : ∀ W, Calls Tryz.prog 75 #[.agg #[.bool q.s, .string (dec q.n), .string (dec q.d), .bool false], .int .i64 64] W (RetRV k b s fs n d e W)) :
 Calls Tryz.prog 41 #[.agg #[.int .i64 3, .bool false, .string ⟨#[]⟩, .bool q.s, .string (dec q.n), .string (dec q.d), .bool false, .int .i64 0], .int .i64 13] w (RetRV k b s fs n d e w) := by
 have HFL := Lib.hid hF; clear hF
 have KK := Lib.hid (fun W => rKind_is 13 W rfl)
 have KW := Lib.hid (fun W => rWhole_is 13 W rfl)
 obtain ⟨wa, hwa⟩ : ∃ wa, wa = (w.alloc (.cells #[.int .i64 3, .bool false, .string ⟨#[]⟩, .bool q.s, .string (dec q.n), .string (dec q.d), .bool false, .int .i64 0] 39)).alloc (.cells #[.int .i64 0, .bool false, .string ⟨#[]⟩, .bool false, .string ⟨#[]⟩, .string ⟨#[]⟩, .bool false, .int .i64 0] 39) := ⟨_, rfl⟩
 obtain ⟨hbl, CX, RES⟩ := kal2 hwa
 have HW := Lib.hid hbl; clear hbl
 replace CX := Lib.hid CX
 replace RES := Lib.hid RES
 go_enter Tryz.func41, Tryz.ntmps41
 go_upto_region 1 with fail
 rw [← hwa]
 clear hwa
 obtain ⟨CX0, CX1, CX2, CX3, CX4, CX5, CX6, CX7⟩ := CX.out.cs8
 go_upto_region 3 with fail
 go_quiet (first | (go_at_call 73; exact Calls.quiet_of_same (KK.out _)))
 obtain ⟨wd, hwd⟩ : ∃ wd, wd = wa.drewN nq := ⟨_, rfl⟩
 have hbl : Below wa.heap.size wa wd := by rw [hwd]; exact bel_drewN (bel_refl _) _
 rw [← hwd]
 clear hwd
 replace CX := hmB CX hbl
 replace RES := hmB RES hbl
 replace HW := hmW HW hbl; clear hbl
 clear CX0 CX1 CX2 CX3 CX4 CX5 CX6 CX7
 obtain ⟨CX0, CX1, CX2, CX3, CX4, CX5, CX6, CX7⟩ := CX.out.cs8
 go_wp2_with fail
 refine (KW.out _).mono ?_
 rintro e wv ⟨rfl, hwv⟩
 obtain rfl := hwv.symm
 clear hwv
 go_wp2_with fail
 refine (HFL.out _).mono ?_
 rintro e w1 ⟨rfl, hbl⟩
 replace CX := hmB CX hbl
 replace RES := hmB RES hbl
 replace HW := hmW HW hbl; clear hbl
 clear CX0 CX1 CX2 CX3 CX4 CX5 CX6 CX7
 obtain ⟨CX0, CX1, CX2, CX3, CX4, CX5, CX6, CX7⟩ := CX.out.cs8
 obtain ⟨d0, d1, d2, d3, d4, d5, d6, d7⟩ := RES.out.cs8
 obtain ⟨f0, f1, f2, f3, f4, f5, f6, f7⟩ := RES.out.fz8
 go_wp2
 exact bodyPost_ret (results_cell_row rfl _ _ (w.heap.size + 1) 39 _ (0, 0) _ rfl (RES.out.put8 _ _ _ _ _ _ _ _) Tryz.underlying39 rfl (by kernel_rfl)) rfl ⟨rfl, (bel_set8 (g := w.heap.size + 1) HW.out (by omega) _ _ _ _ _ _ _ _)⟩
end
end Go.Proofs.YtmbbdjpnecjleaaGreat
namespace Go.Proofs.YtmbbdjpnecjleaaGreat
section
set_option maxRecDepth 100000
set_option maxHeartbeats 1000000
open Go.RowKit

theorem dec_zero15 : dec 0 = ⟨#[48]⟩ := by decide +kernel
theorem refDiv_two (a : Nat) (w : World) (hl : (decL a).length ≤ 1000) : Calls Tryz.prog 109 #[.string (dec a), .string ⟨#[50]⟩] w (fun e w' => e = .returned (.agg #[.string (dec (a / 2)), .string (dec (a % 2))]) ∧ Below w.heap.size w w') := by
 have h := refDiv_agg a 2 w hl (by decide +kernel) (by decide)
 rwa [show dec 2 = ⟨#[50]⟩ by decide +kernel] at h
open Classical in
noncomputable def decOf (v : Value) : Nat := if h : ∃ n, v = .string (dec n) then h.choose else 0
theorem decOf_is (n : Nat) : decOf (.string (dec n)) = n := by
 unfold decOf
 have h : ∃ m, Value.string (dec n) = .string (dec m) := ⟨n, rfl⟩
 rw [dif_pos h]
 exact (dec_inj (congrArg ByteArray.toList (Value.string.inj h.choose_spec))).symm
theorem dec_nz {n : Nat} (h : n ≠ 0) : ¬ (dec n).toList = [48] ∧ ((dec n).toList == [48]) = false := by
 have h1 : ¬ (dec n).toList = [48] := fun e => h (dec_inj (b := 0) (by rw [e, dec_zero15]; rw [ByteArray.toList_eq]))
 exact ⟨h1, by simpa using h1⟩
theorem dec_yz {n : Nat} (h : n = 0) : (dec n).toList = [48] ∧ ((dec n).toList == [48]) = true := by
 have h1 : (dec n).toList = [48] := by rw [h, dec_zero15, ByteArray.toList_eq]
 exact ⟨h1, by simpa using h1⟩
theorem dec_two {n : Nat} : (dec (n % 2) = ⟨#[48]⟩ ∧ n % 2 = 0) ∨ (dec (n % 2) = ⟨#[49]⟩ ∧ n % 2 = 1) := by
 rcases Nat.mod_two_eq_zero_or_one n with h | h
 · exact .inl ⟨by rw [h, dec_zero15], h⟩
 · exact .inr ⟨by rw [h, dec_one15], h⟩
theorem bop_bit (k A B : Nat) : bop k (A % 2) (B % 2) = 0 ∨ bop k (A % 2) (B % 2) = 1 := by
 have := bop_lt k (n := 1) (x := A % 2) (y := B % 2) (by omega) (by omega)
 omega
structure BtR (w wr : World) (k a b i A B O P : Nat) : Prop where
 old : Below w.heap.size w wr
 eA : A = a / 2 ^ i
 eB : B = b / 2 ^ i
 eO : O = bop k (a % 2 ^ i) (b % 2 ^ i)
 eP : P = 2 ^ i
theorem BtR.lim {w wr : World} {k a b i A B O P : Nat} (h : BtR w wr k a b i A B O P) (ha : a < Top) (hb : b < Top) (hz : ¬ (A = 0 ∧ B = 0)) : A < Top ∧ B < Top ∧ O < Top ∧ P < Top := by
 have hp : 0 < 2 ^ i := Nat.pow_pos (by decide)
 have h1 : A ≤ a := by rw [h.eA]; exact Nat.div_le_self _ _
 have h2 : B ≤ b := by rw [h.eB]; exact Nat.div_le_self _ _
 have h3 : O < 2 ^ i := by rw [h.eO]; exact bop_lt k (Nat.mod_lt _ hp) (Nat.mod_lt _ hp)
 have h4 : 2 ^ i < Top := by
  rcases Nat.lt_or_ge a (2 ^ i) with ha2 | ha2
  · rcases Nat.lt_or_ge b (2 ^ i) with hb2 | hb2
    · exact absurd ⟨by rw [h.eA]; exact Nat.div_eq_of_lt ha2, by rw [h.eB]; exact Nat.div_eq_of_lt hb2⟩ hz
    · omega
  · omega
 have h5 := h.eP
 omega
theorem BtR.step {w wr w' : World} {k a b i A B O P O' : Nat} (h : BtR w wr k a b i A B O P) (hb : Below w.heap.size w w') (hO : O' = O + P * bop k (A % 2) (B % 2)) : BtR w w' k a b (i + 1) (A / 2) (B / 2) O' (P * 2 + 0) := by
 refine ⟨hb, ?_, ?_, ?_, ?_⟩
 · rw [h.eA, Nat.div_div_eq_div_mul, Nat.pow_succ]
 · rw [h.eB, Nat.div_div_eq_div_mul, Nat.pow_succ]
 · rw [hO, h.eO, h.eP, h.eA, h.eB, ← bop_low]
 · rw [h.eP, Nat.pow_succ, Nat.add_zero]
theorem BtR.done {w wr : World} {k a b i A B O P : Nat} (h : BtR w wr k a b i A B O P) (hA : A = 0) (hB : B = 0) : O = bop k a b := by
 have hp : 0 < 2 ^ i := Nat.pow_pos (by decide)
 have h1 : a < 2 ^ i := (Nat.div_eq_zero_iff_lt hp).1 (by rw [← h.eA]; exact hA)
 have h2 : b < 2 ^ i := (Nat.div_eq_zero_iff_lt hp).1 (by rw [← h.eB]; exact hB)
 rw [h.eO, Nat.mod_eq_of_lt h1, Nat.mod_eq_of_lt h2]
theorem rTwo_v {r : Nat} (k x y : Nat) (w : World) (hk : k < 3) (hx : x < 2) (hy : y < 2) (h : bop k x y = r) : Calls Tryz.prog 129 #[.string (opB k), .int .i64 (x : Int), .int .i64 (y : Int)] w (RetI0 (r : Int) w) := by
 rw [← h]
 exact rTwo_is k x y w hk hx hy
theorem rBitw_is (k a b : Nat) (w : World) (hk : k < 3) (ha : a < Top) (hb : b < Top) : Calls Tryz.prog 81 #[.string (opB k), .string (dec a), .string (dec b)] w (RetS (dec (bop k a b)) w) := by
 have HK := Lib.hid (And.intro hk (And.intro ha hb)); clear hk ha hb
 obtain ⟨op, hop⟩ : ∃ op, opB k = op := ⟨_, rfl⟩
 rw [hop]
 have HOP := Lib.hid hop; clear hop
 go_enter Tryz.func81, Tryz.ntmps81
 go_wp2
 go_loopw [1, 2, 7, 8] (fun av bv ov pv wr => ∃ i A B O P, av = .string (dec A) ∧ bv = .string (dec B) ∧ ov = .string (dec O) ∧ pv = .string (dec P) ∧ BtR w wr k a b i A B O P) (fun av bv _ _ _ => decOf av + decOf bv)
 case atStart => exact ⟨0, a, b, 0, 1, rfl, rfl, by rw [dec_zero15], by rw [dec_one15], ⟨bel_refl _, by simp, by simp, by rw [Nat.pow_zero, Nat.mod_one, Nat.mod_one, bop_zero], rfl⟩⟩
 case round =>
  obtain ⟨i, A, B, O, P, rfl, rfl, rfl, rfl, hrel⟩ := hrel
  have HR := Lib.hid hrel; clear hrel
  have HW := Lib.hid HR.out.old
  by_cases hz : A = 0 ∧ B = 0
  · have hO := Lib.hid (HR.out.done hz.1 hz.2)
    obtain ⟨z1, z2⟩ := dec_yz hz.1
    obtain ⟨z3, z4⟩ := dec_yz hz.2
    clear hz
    go_wp2
    go_ret
    exact ⟨by have h := hO.out; subst h; rfl, HW.out⟩
  · have HB := Lib.hid (HR.out.lim HK.out.2.1 HK.out.2.2 hz)
    have HT : (¬ (dec A).toList = [48] ∧ ((dec A).toList == [48]) = false) ∨ (((dec A).toList = [48] ∧ ((dec A).toList == [48]) = true) ∧ (¬ (dec B).toList = [48] ∧ ((dec B).toList == [48]) = false)) := by
     by_cases h : A = 0
     · exact .inr ⟨dec_yz h, dec_nz fun h2 => hz ⟨h, h2⟩⟩
     · exact .inl (dec_nz h)
    have HZ := Lib.hid hz; clear hz
    obtain ⟨S1, hS⟩ : ∃ S, dec (A % 2) = S := ⟨_, rfl⟩
    have HX1 := Lib.hid (@dec_two A)
    rw [hS] at HX1
    have HS1 := Lib.hid hS; clear hS
    obtain ⟨S2, hS⟩ : ∃ S, dec (B % 2) = S := ⟨_, rfl⟩
    have HX2 := Lib.hid (@dec_two B)
    rw [hS] at HX2
    have HS2 := Lib.hid hS; clear hS
    rcases HT with ⟨t1, t2⟩ | ⟨⟨t1, t2⟩, t3, t4⟩
    all_goals
     go_wp2_with fail
     refine (refDiv_two A _ (by have := decL_top HB.out.1; omega)).mono ?_
     rintro e w1 ⟨rfl, hbl⟩
     replace HW := hmW HW hbl; clear hbl
     rw [HS1.out]
     go_upto_region 5 with fail
     obtain ⟨wx, hwx⟩ : ∃ wx, wx = w1.alloc (.cells #[.string (dec (A / 2)), .string S1] 124) := ⟨_, rfl⟩
     rw [← hwx]
     obtain ⟨hbl, BX⟩ := sal1 hwx
     clear hwx
     replace HW := hmW HW hbl; clear hbl
     obtain ⟨BX0, BX1⟩ := BX.out.cs2
     go_wp2_with fail
     refine (refDiv_two B _ (by have := decL_top HB.out.2.1; omega)).mono ?_
     rintro e w2 ⟨rfl, hbl⟩
     replace BX := hmB BX hbl
     replace HW := hmW HW hbl; clear hbl
     clear BX0 BX1
     obtain ⟨BX0, BX1⟩ := BX.out.cs2
     rw [HS2.out]
     go_upto_region 6 with fail
     obtain ⟨wy, hwy⟩ : ∃ wy, wy = w2.alloc (.cells #[.string (dec (B / 2)), .string S2] 124) := ⟨_, rfl⟩
     rw [← hwy]
     obtain ⟨hbl, BY⟩ := sal1 hwy
     clear hwy
     replace BX := hmB BX hbl
     replace HW := hmW HW hbl; clear hbl
     clear BX0 BX1
     obtain ⟨BX0, BX1⟩ := BX.out.cs2
     obtain ⟨BY0, BY1⟩ := BY.out.cs2
     rcases HX1.out with ⟨ex, dx⟩ | ⟨ex, dx⟩
     all_goals
      rcases HX2.out with ⟨ey, dy⟩ | ⟨ey, dy⟩
      all_goals
       subst ex ey
       rcases bop_bit k A B with hr | hr
       · have HBT := Lib.hid hr
         have KT := Lib.hid (fun W => rTwo_v k (A % 2) (B % 2) W HK.out.1 (Nat.mod_lt _ (by decide)) (Nat.mod_lt _ (by decide)) hr)
         rw [HOP.out, dx, dy] at KT
         clear hr dx dy
         go_quiet (first | (go_at_call 129; exact Calls.quiet_of_same (KT.out _)))
         obtain ⟨wd, hwd⟩ : ∃ wd, wd = wy.drewN nq := ⟨_, rfl⟩
         have hbl : Below wy.heap.size wy wd := by rw [hwd]; exact bel_drewN (bel_refl _) _
         rw [← hwd]
         clear hwd
         replace BX := hmB BX hbl
         replace BY := hmB BY hbl
         replace HW := hmW HW hbl; clear hbl
         clear BX0 BX1 BY0 BY1
         obtain ⟨BX0, BX1⟩ := BX.out.cs2
         obtain ⟨BY0, BY1⟩ := BY.out.cs2
         go_wp2_with fail
         refine (refSmall_any P 2 0 _ (by have := decL_top HB.out.2.2.2; omega) (by decide) (by decide)).mono ?_
         rintro e w9 ⟨rfl, hbl⟩
         replace BX := hmB BX hbl
         replace BY := hmB BY hbl
         replace HW := hmW HW hbl; clear hbl
         clear BX0 BX1 BY0 BY1
         obtain ⟨BX0, BX1⟩ := BX.out.cs2
         obtain ⟨BY0, BY1⟩ := BY.out.cs2
         go_wp2
         go_roundw
         case rel => exact ⟨i + 1, A / 2, B / 2, O, P * 2 + 0, rfl, rfl, rfl, rfl, HR.out.step HW.out (by rw [HBT.out]; omega)⟩
         case measure =>
          rw [decOf_is, decOf_is, decOf_is, decOf_is]
          have := HZ.out
          omega
       · have HBT := Lib.hid hr
         have KT := Lib.hid (fun W => rTwo_v k (A % 2) (B % 2) W HK.out.1 (Nat.mod_lt _ (by decide)) (Nat.mod_lt _ (by decide)) hr)
         rw [HOP.out, dx, dy] at KT
         clear hr dx dy
         go_quiet (first | (go_at_call 129; exact Calls.quiet_of_same (KT.out _)))
         obtain ⟨wd, hwd⟩ : ∃ wd, wd = wy.drewN nq := ⟨_, rfl⟩
         have hbl : Below wy.heap.size wy wd := by rw [hwd]; exact bel_drewN (bel_refl _) _
         rw [← hwd]
         clear hwd
         replace BX := hmB BX hbl
         replace BY := hmB BY hbl
         replace HW := hmW HW hbl; clear hbl
         clear BX0 BX1 BY0 BY1
         obtain ⟨BX0, BX1⟩ := BX.out.cs2
         obtain ⟨BY0, BY1⟩ := BY.out.cs2
         go_wp2_with fail
         refine (refAdd_any O P _ (by have := decL_top HB.out.2.2.1; omega) (by have := decL_top HB.out.2.2.2; omega)).mono ?_
         rintro e w9 ⟨rfl, hbl⟩
         replace BX := hmB BX hbl
         replace BY := hmB BY hbl
         replace HW := hmW HW hbl; clear hbl
         clear BX0 BX1 BY0 BY1
         obtain ⟨BX0, BX1⟩ := BX.out.cs2
         obtain ⟨BY0, BY1⟩ := BY.out.cs2
         go_wp2_with fail
         refine (refSmall_any P 2 0 _ (by have := decL_top HB.out.2.2.2; omega) (by decide) (by decide)).mono ?_
         rintro e w10 ⟨rfl, hbl⟩
         replace BX := hmB BX hbl
         replace BY := hmB BY hbl
         replace HW := hmW HW hbl; clear hbl
         clear BX0 BX1 BY0 BY1
         obtain ⟨BX0, BX1⟩ := BX.out.cs2
         obtain ⟨BY0, BY1⟩ := BY.out.cs2
         go_wp2
         go_roundw
         case rel => exact ⟨i + 1, A / 2, B / 2, (O + P), P * 2 + 0, rfl, rfl, rfl, rfl, HR.out.step HW.out (by rw [HBT.out]; omega)⟩
         case measure =>
          rw [decOf_is, decOf_is, decOf_is, decOf_is]
          have := HZ.out
          omega
end
end Go.Proofs.YtmbbdjpnecjleaaGreat
