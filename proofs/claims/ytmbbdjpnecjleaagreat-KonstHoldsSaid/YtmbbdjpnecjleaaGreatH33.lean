/-
 Parts: K32.
-/
import Derived.Test.YtmbbdjpnecjleaaGreatH28
import Derived.Test.YtmbbdjpnecjleaaGreatH27
namespace Go.Proofs.YtmbbdjpnecjleaaGreat
section
set_option maxRecDepth 100000
set_option maxHeartbeats 1000000
open Go.RowKit

def opsU : List ByteArray := [⟨#[33]⟩, ⟨#[43]⟩, ⟨#[45]⟩, ⟨#[94]⟩]
theorem kCont_is {v : Bool} (g : Nat) (t : TypeId) (op : ByteArray) (w : World) (hB : Blk w g t #[.string ⟨#[33]⟩, .string ⟨#[43]⟩, .string ⟨#[45]⟩, .string ⟨#[94]⟩]) (hv : Lib.containsS opsU op = v) : Calls Tryz.prog 44 #[.slice (some ⟨g, 0, none⟩) 4 4, .string op] w (RetB0 v w) := by
 have h := Tryz.slices_Contains_string g 0 4 4 opsU op w (by decide) (by decide) (fun j hj => by
  rw [hB.cell]
  have hc : j = 0 ∨ j = 1 ∨ j = 2 ∨ j = 3 := by have : j < 4 := hj; omega
  rcases hc with rfl | rfl | rfl | rfl <;> rfl)
 rw [show opsU.take 4 = opsU from rfl, hv] at h
 exact h
theorem kUn_bada (op : ByteArray) (k : Int) (b g : Bool) (s : ByteArray) (A B : Option Addr) (c d : Nat) (xs ys : List Nat) (t : Int) (w : World) (h1 : RdL w A xs) (h2 : RdL w B ys) (m1 : Lim xs) (m2 : Lim ys) (l1 : xs.length ≤ 18) (l2 : ys.length ≤ 18) (k1 : xs.length ≤ c) (k2 : ys.length ≤ d) (hr : rightV k b s g xs ys = false) :
 Calls Tryz.prog 14 #[.string op, .agg #[.int .i64 k, .bool b, .string s, .bool g, .slice A xs.length c, .slice B ys.length d], .int .i64 t] w (RetV 0 false ⟨#[]⟩ noQ 1 w) := by
 have R1 := Lib.hid h1; clear h1
 have R2 := Lib.hid h2; clear h2
 have ML := Lib.hid (And.intro m1 (And.intro m2 (And.intro l1 (And.intro l2 (And.intro k1 k2))))); clear m1 m2 l1 l2 k1 k2
 have HR := Lib.hid hr; clear hr
 obtain ⟨wa, hwa⟩ : ∃ wa, wa = (w.alloc (.cells #[.int .i64 k, .bool b, .string s, .bool g, .slice A xs.length c, .slice B ys.length d] 27)).alloc (.cells #[.int .i64 0, .bool false, .string ⟨#[]⟩, .bool false, .slice none 0 0, .slice none 0 0] 27) := ⟨_, rfl⟩
 obtain ⟨hbl, CX, RES⟩ := kal2 hwa
 replace R1 := hmR R1 hbl
 replace R2 := hmR R2 hbl
 have HW := Lib.hid hbl; clear hbl
 replace CX := Lib.hid CX
 replace RES := Lib.hid RES
 go_enter Tryz.func14, Tryz.ntmps14
 go_upto_region 1 with fail
 rw [← hwa]
 clear hwa
 obtain ⟨CX0, CX1, CX2, CX3, CX4, CX5⟩ := CX.out.cs6
 go_wp2_with fail
 refine (kRight_any k b s g A B c d xs ys _ R1.out R2.out ML.out.1 ML.out.2.1 ML.out.2.2.1 ML.out.2.2.2.1 ML.out.2.2.2.2.1 ML.out.2.2.2.2.2).mono ?_
 rintro e w1 ⟨rfl, hbl⟩
 replace R1 := hmR R1 hbl
 replace R2 := hmR R2 hbl
 replace CX := hmB CX hbl
 replace RES := hmB RES hbl
 replace HW := hmW HW hbl; clear hbl
 clear CX0 CX1 CX2 CX3 CX4 CX5
 obtain ⟨CX0, CX1, CX2, CX3, CX4, CX5⟩ := CX.out.cs6
 rw [HR.out]
 obtain ⟨d0, d1, d2, d3, d4, d5⟩ := RES.out.cs6
 obtain ⟨f0, f1, f2, f3, f4, f5⟩ := RES.out.fz6
 go_wp2
 exact bodyPost_ret (results_row_tmp rfl _ _ (w.heap.size + 1) 27 _ (0, 0) _ _ rfl rfl (RES.out.put6 _ _ _ _ _ _) Tryz.underlying27 rfl (by kernel_rfl)) rfl ⟨_, _, rfl, (RdN.set6 RES.out rfl (RdN.none0 _) _ _ _ _ _ _), (RdN.set6 RES.out rfl (RdN.none0 _) _ _ _ _ _ _), (bel_set6 (g := w.heap.size + 1) HW.out (by omega) _ _ _ _ _ _)⟩
theorem kUn_badt (op : ByteArray) (k : Int) (b g : Bool) (s : ByteArray) (A B : Option Addr) (c d : Nat) (xs ys : List Nat) (t : Int) (w : World) (h1 : RdL w A xs) (h2 : RdL w B ys) (m1 : Lim xs) (m2 : Lim ys) (l1 : xs.length ≤ 18) (l2 : ys.length ≤ 18) (k1 : xs.length ≤ c) (k2 : ys.length ≤ d) (hr : rightV k b s g xs ys = true) (hb : basB t = false) :
 Calls Tryz.prog 14 #[.string op, .agg #[.int .i64 k, .bool b, .string s, .bool g, .slice A xs.length c, .slice B ys.length d], .int .i64 t] w (RetV 0 false ⟨#[]⟩ noQ 1 w) := by
 have R1 := Lib.hid h1; clear h1
 have R2 := Lib.hid h2; clear h2
 have ML := Lib.hid (And.intro m1 (And.intro m2 (And.intro l1 (And.intro l2 (And.intro k1 k2))))); clear m1 m2 l1 l2 k1 k2
 have HR := Lib.hid hr; clear hr
 have KB := Lib.hid (fun W => kBas_is t W hb); clear hb
 obtain ⟨wa, hwa⟩ : ∃ wa, wa = (w.alloc (.cells #[.int .i64 k, .bool b, .string s, .bool g, .slice A xs.length c, .slice B ys.length d] 27)).alloc (.cells #[.int .i64 0, .bool false, .string ⟨#[]⟩, .bool false, .slice none 0 0, .slice none 0 0] 27) := ⟨_, rfl⟩
 obtain ⟨hbl, CX, RES⟩ := kal2 hwa
 replace R1 := hmR R1 hbl
 replace R2 := hmR R2 hbl
 have HW := Lib.hid hbl; clear hbl
 replace CX := Lib.hid CX
 replace RES := Lib.hid RES
 go_enter Tryz.func14, Tryz.ntmps14
 go_upto_region 1 with fail
 rw [← hwa]
 clear hwa
 obtain ⟨CX0, CX1, CX2, CX3, CX4, CX5⟩ := CX.out.cs6
 go_wp2_with fail
 refine (kRight_any k b s g A B c d xs ys _ R1.out R2.out ML.out.1 ML.out.2.1 ML.out.2.2.1 ML.out.2.2.2.1 ML.out.2.2.2.2.1 ML.out.2.2.2.2.2).mono ?_
 rintro e w1 ⟨rfl, hbl⟩
 replace R1 := hmR R1 hbl
 replace R2 := hmR R2 hbl
 replace CX := hmB CX hbl
 replace RES := hmB RES hbl
 replace HW := hmW HW hbl; clear hbl
 clear CX0 CX1 CX2 CX3 CX4 CX5
 obtain ⟨CX0, CX1, CX2, CX3, CX4, CX5⟩ := CX.out.cs6
 rw [HR.out]
 go_wp2_with fail
 refine (KB.out _).mono ?_
 rintro e wv ⟨rfl, hwv⟩
 obtain rfl := hwv.symm
 clear hwv
 obtain ⟨d0, d1, d2, d3, d4, d5⟩ := RES.out.cs6
 obtain ⟨f0, f1, f2, f3, f4, f5⟩ := RES.out.fz6
 go_wp2
 exact bodyPost_ret (results_row_tmp rfl _ _ (w.heap.size + 1) 27 _ (0, 0) _ _ rfl rfl (RES.out.put6 _ _ _ _ _ _) Tryz.underlying27 rfl (by kernel_rfl)) rfl ⟨_, _, rfl, (RdN.set6 RES.out rfl (RdN.none0 _) _ _ _ _ _ _), (RdN.set6 RES.out rfl (RdN.none0 _) _ _ _ _ _ _), (bel_set6 (g := w.heap.size + 1) HW.out (by omega) _ _ _ _ _ _)⟩
theorem kUn_bado (op : ByteArray) (k : Int) (b g : Bool) (s : ByteArray) (A B : Option Addr) (c d : Nat) (xs ys : List Nat) (t : Int) (w : World) (h1 : RdL w A xs) (h2 : RdL w B ys) (m1 : Lim xs) (m2 : Lim ys) (l1 : xs.length ≤ 18) (l2 : ys.length ≤ 18) (k1 : xs.length ≤ c) (k2 : ys.length ≤ d) (hr : rightV k b s g xs ys = true) (hb : basB t = true) (hco : Lib.containsS opsU op = false) :
 Calls Tryz.prog 14 #[.string op, .agg #[.int .i64 k, .bool b, .string s, .bool g, .slice A xs.length c, .slice B ys.length d], .int .i64 t] w (RetV 0 false ⟨#[]⟩ noQ 1 w) := by
 have R1 := Lib.hid h1; clear h1
 have R2 := Lib.hid h2; clear h2
 have ML := Lib.hid (And.intro m1 (And.intro m2 (And.intro l1 (And.intro l2 (And.intro k1 k2))))); clear m1 m2 l1 l2 k1 k2
 have HR := Lib.hid hr; clear hr
 have KB := Lib.hid (fun W => kBas_is t W hb); clear hb
 have HCO := Lib.hid hco; clear hco
 obtain ⟨wa, hwa⟩ : ∃ wa, wa = (w.alloc (.cells #[.int .i64 k, .bool b, .string s, .bool g, .slice A xs.length c, .slice B ys.length d] 27)).alloc (.cells #[.int .i64 0, .bool false, .string ⟨#[]⟩, .bool false, .slice none 0 0, .slice none 0 0] 27) := ⟨_, rfl⟩
 obtain ⟨hbl, CX, RES⟩ := kal2 hwa
 replace R1 := hmR R1 hbl
 replace R2 := hmR R2 hbl
 have HW := Lib.hid hbl; clear hbl
 replace CX := Lib.hid CX
 replace RES := Lib.hid RES
 go_enter Tryz.func14, Tryz.ntmps14
 go_upto_region 1 with fail
 rw [← hwa]
 clear hwa
 obtain ⟨CX0, CX1, CX2, CX3, CX4, CX5⟩ := CX.out.cs6
 go_wp2_with fail
 refine (kRight_any k b s g A B c d xs ys _ R1.out R2.out ML.out.1 ML.out.2.1 ML.out.2.2.1 ML.out.2.2.2.1 ML.out.2.2.2.2.1 ML.out.2.2.2.2.2).mono ?_
 rintro e w1 ⟨rfl, hbl⟩
 replace R1 := hmR R1 hbl
 replace R2 := hmR R2 hbl
 replace CX := hmB CX hbl
 replace RES := hmB RES hbl
 replace HW := hmW HW hbl; clear hbl
 clear CX0 CX1 CX2 CX3 CX4 CX5
 obtain ⟨CX0, CX1, CX2, CX3, CX4, CX5⟩ := CX.out.cs6
 rw [HR.out]
 go_wp2_with fail
 refine (KB.out _).mono ?_
 rintro e wv ⟨rfl, hwv⟩
 obtain rfl := hwv.symm
 clear hwv
 go_wp2_with fail
 obtain ⟨w30, hw30⟩ : ∃ w30, w30 = w1.alloc (.cells #[.string ⟨#[33]⟩, .string ⟨#[43]⟩, .string ⟨#[45]⟩, .string ⟨#[94]⟩] 9) := ⟨_, rfl⟩
 rw [← hw30]
 obtain ⟨hbl, SL⟩ := sal1 hw30
 clear hw30
 replace R1 := hmR R1 hbl
 replace R2 := hmR R2 hbl
 replace CX := hmB CX hbl
 replace RES := hmB RES hbl
 replace HW := hmW HW hbl; clear hbl
 clear CX0 CX1 CX2 CX3 CX4 CX5
 obtain ⟨CX0, CX1, CX2, CX3, CX4, CX5⟩ := CX.out.cs6
 refine (kCont_is _ _ _ _ SL.out HCO.out).mono ?_
 rintro e wv ⟨rfl, hwv⟩
 obtain rfl := hwv.symm
 clear hwv
 obtain ⟨d0, d1, d2, d3, d4, d5⟩ := RES.out.cs6
 obtain ⟨f0, f1, f2, f3, f4, f5⟩ := RES.out.fz6
 go_wp2
 exact bodyPost_ret (results_row_tmp rfl _ _ (w.heap.size + 1) 27 _ (0, 0) _ _ rfl rfl (RES.out.put6 _ _ _ _ _ _) Tryz.underlying27 rfl (by kernel_rfl)) rfl ⟨_, _, rfl, (RdN.set6 RES.out rfl (RdN.none0 _) _ _ _ _ _ _), (RdN.set6 RES.out rfl (RdN.none0 _) _ _ _ _ _ _), (bel_set6 (g := w.heap.size + 1) HW.out (by omega) _ _ _ _ _ _)⟩
set_option maxHeartbeats 2000000 in
theorem kUn_n (b g : Bool) (s : ByteArray) (A B : Option Addr) (c d : Nat) (xs ys : List Nat) (t : Int) (w : World) (h1 : RdL w A xs) (h2 : RdL w B ys) (m1 : Lim xs) (m2 : Lim ys) (l1 : xs.length ≤ 18) (l2 : ys.length ≤ 18) (k1 : xs.length ≤ c) (k2 : ys.length ≤ d) (hr : rightV 1 b s g xs ys = true) (hb : basB t = true) (ht : truthB t = true) :
 Calls Tryz.prog 14 #[.string ⟨#[33]⟩, .agg #[.int .i64 1, .bool b, .string s, .bool g, .slice A xs.length c, .slice B ys.length d], .int .i64 t] w (RetV 1 (!b) ⟨#[]⟩ noQ 0 w) := by
 have KT := Lib.hid (fun W => kTruth_is t W ht); clear ht
 have hco : Lib.containsS opsU ⟨#[33]⟩ = true := by decide +kernel
 have R1 := Lib.hid h1; clear h1
 have R2 := Lib.hid h2; clear h2
 have ML := Lib.hid (And.intro m1 (And.intro m2 (And.intro l1 (And.intro l2 (And.intro k1 k2))))); clear m1 m2 l1 l2 k1 k2
 have HR := Lib.hid hr; clear hr
 have KB := Lib.hid (fun W => kBas_is t W hb); clear hb
 have HCO := Lib.hid hco; clear hco
 obtain ⟨wa, hwa⟩ : ∃ wa, wa = (w.alloc (.cells #[.int .i64 1, .bool b, .string s, .bool g, .slice A xs.length c, .slice B ys.length d] 27)).alloc (.cells #[.int .i64 0, .bool false, .string ⟨#[]⟩, .bool false, .slice none 0 0, .slice none 0 0] 27) := ⟨_, rfl⟩
 obtain ⟨hbl, CX, RES⟩ := kal2 hwa
 replace R1 := hmR R1 hbl
 replace R2 := hmR R2 hbl
 have HW := Lib.hid hbl; clear hbl
 replace CX := Lib.hid CX
 replace RES := Lib.hid RES
 go_enter Tryz.func14, Tryz.ntmps14
 go_upto_region 1 with fail
 rw [← hwa]
 clear hwa
 obtain ⟨CX0, CX1, CX2, CX3, CX4, CX5⟩ := CX.out.cs6
 go_wp2_with fail
 refine (kRight_any 1 b s g A B c d xs ys _ R1.out R2.out ML.out.1 ML.out.2.1 ML.out.2.2.1 ML.out.2.2.2.1 ML.out.2.2.2.2.1 ML.out.2.2.2.2.2).mono ?_
 rintro e w1 ⟨rfl, hbl⟩
 replace R1 := hmR R1 hbl
 replace R2 := hmR R2 hbl
 replace CX := hmB CX hbl
 replace RES := hmB RES hbl
 replace HW := hmW HW hbl; clear hbl
 clear CX0 CX1 CX2 CX3 CX4 CX5
 obtain ⟨CX0, CX1, CX2, CX3, CX4, CX5⟩ := CX.out.cs6
 rw [HR.out]
 go_wp2_with fail
 refine (KB.out _).mono ?_
 rintro e wv ⟨rfl, hwv⟩
 obtain rfl := hwv.symm
 clear hwv
 go_wp2_with fail
 obtain ⟨w30, hw30⟩ : ∃ w30, w30 = w1.alloc (.cells #[.string ⟨#[33]⟩, .string ⟨#[43]⟩, .string ⟨#[45]⟩, .string ⟨#[94]⟩] 9) := ⟨_, rfl⟩
 rw [← hw30]
 obtain ⟨hbl, SL⟩ := sal1 hw30
 clear hw30
 replace R1 := hmR R1 hbl
 replace R2 := hmR R2 hbl
 replace CX := hmB CX hbl
 replace RES := hmB RES hbl
 replace HW := hmW HW hbl; clear hbl
 clear CX0 CX1 CX2 CX3 CX4 CX5
 obtain ⟨CX0, CX1, CX2, CX3, CX4, CX5⟩ := CX.out.cs6
 refine (kCont_is _ _ _ _ SL.out HCO.out).mono ?_
 rintro e wv ⟨rfl, hwv⟩
 obtain rfl := hwv.symm
 clear hwv
 go_wp2_with fail
 refine (KT.out _).mono ?_
 rintro e wv ⟨rfl, hwv⟩
 obtain rfl := hwv.symm
 clear hwv
 cases b
 · obtain ⟨d0, d1, d2, d3, d4, d5⟩ := RES.out.cs6
   obtain ⟨f0, f1, f2, f3, f4, f5⟩ := RES.out.fz6
   go_wp2
   exact bodyPost_ret (results_row_tmp rfl _ _ (w.heap.size + 1) 27 _ (0, 0) _ _ rfl rfl (RES.out.put6 _ _ _ _ _ _) Tryz.underlying27 rfl (by kernel_rfl)) rfl ⟨_, _, rfl, (RdN.set6 RES.out rfl (RdN.none0 _) _ _ _ _ _ _), (RdN.set6 RES.out rfl (RdN.none0 _) _ _ _ _ _ _), (bel_set6 (g := w.heap.size + 1) HW.out (by omega) _ _ _ _ _ _)⟩
 · obtain ⟨d0, d1, d2, d3, d4, d5⟩ := RES.out.cs6
   obtain ⟨f0, f1, f2, f3, f4, f5⟩ := RES.out.fz6
   go_wp2
   exact bodyPost_ret (results_row_tmp rfl _ _ (w.heap.size + 1) 27 _ (0, 0) _ _ rfl rfl (RES.out.put6 _ _ _ _ _ _) Tryz.underlying27 rfl (by kernel_rfl)) rfl ⟨_, _, rfl, (RdN.set6 RES.out rfl (RdN.none0 _) _ _ _ _ _ _), (RdN.set6 RES.out rfl (RdN.none0 _) _ _ _ _ _ _), (bel_set6 (g := w.heap.size + 1) HW.out (by omega) _ _ _ _ _ _)⟩
theorem kUn_nt (k : Int) (b g : Bool) (s : ByteArray) (A B : Option Addr) (c d : Nat) (xs ys : List Nat) (t : Int) (w : World) (h1 : RdL w A xs) (h2 : RdL w B ys) (m1 : Lim xs) (m2 : Lim ys) (l1 : xs.length ≤ 18) (l2 : ys.length ≤ 18) (k1 : xs.length ≤ c) (k2 : ys.length ≤ d) (hr : rightV k b s g xs ys = true) (hb : basB t = true) (hx : ¬ (k = 1 ∧ truthB t = true)) :
 Calls Tryz.prog 14 #[.string ⟨#[33]⟩, .agg #[.int .i64 k, .bool b, .string s, .bool g, .slice A xs.length c, .slice B ys.length d], .int .i64 t] w (RetV 0 false ⟨#[]⟩ noQ 11 w) := by
 obtain ⟨v, hv⟩ : ∃ v, truthB t = v := ⟨_, rfl⟩
 have KT := Lib.hid (fun W => kTruth_is t W hv)
 rw [hv] at hx; clear hv
 have HX := Lib.hid hx; clear hx
 have hco : Lib.containsS opsU ⟨#[33]⟩ = true := by decide +kernel
 have R1 := Lib.hid h1; clear h1
 have R2 := Lib.hid h2; clear h2
 have ML := Lib.hid (And.intro m1 (And.intro m2 (And.intro l1 (And.intro l2 (And.intro k1 k2))))); clear m1 m2 l1 l2 k1 k2
 have HR := Lib.hid hr; clear hr
 have KB := Lib.hid (fun W => kBas_is t W hb); clear hb
 have HCO := Lib.hid hco; clear hco
 obtain ⟨wa, hwa⟩ : ∃ wa, wa = (w.alloc (.cells #[.int .i64 k, .bool b, .string s, .bool g, .slice A xs.length c, .slice B ys.length d] 27)).alloc (.cells #[.int .i64 0, .bool false, .string ⟨#[]⟩, .bool false, .slice none 0 0, .slice none 0 0] 27) := ⟨_, rfl⟩
 obtain ⟨hbl, CX, RES⟩ := kal2 hwa
 replace R1 := hmR R1 hbl
 replace R2 := hmR R2 hbl
 have HW := Lib.hid hbl; clear hbl
 replace CX := Lib.hid CX
 replace RES := Lib.hid RES
 go_enter Tryz.func14, Tryz.ntmps14
 go_upto_region 1 with fail
 rw [← hwa]
 clear hwa
 obtain ⟨CX0, CX1, CX2, CX3, CX4, CX5⟩ := CX.out.cs6
 go_wp2_with fail
 refine (kRight_any k b s g A B c d xs ys _ R1.out R2.out ML.out.1 ML.out.2.1 ML.out.2.2.1 ML.out.2.2.2.1 ML.out.2.2.2.2.1 ML.out.2.2.2.2.2).mono ?_
 rintro e w1 ⟨rfl, hbl⟩
 replace R1 := hmR R1 hbl
 replace R2 := hmR R2 hbl
 replace CX := hmB CX hbl
 replace RES := hmB RES hbl
 replace HW := hmW HW hbl; clear hbl
 clear CX0 CX1 CX2 CX3 CX4 CX5
 obtain ⟨CX0, CX1, CX2, CX3, CX4, CX5⟩ := CX.out.cs6
 rw [HR.out]
 go_wp2_with fail
 refine (KB.out _).mono ?_
 rintro e wv ⟨rfl, hwv⟩
 obtain rfl := hwv.symm
 clear hwv
 go_wp2_with fail
 obtain ⟨w30, hw30⟩ : ∃ w30, w30 = w1.alloc (.cells #[.string ⟨#[33]⟩, .string ⟨#[43]⟩, .string ⟨#[45]⟩, .string ⟨#[94]⟩] 9) := ⟨_, rfl⟩
 rw [← hw30]
 obtain ⟨hbl, SL⟩ := sal1 hw30
 clear hw30
 replace R1 := hmR R1 hbl
 replace R2 := hmR R2 hbl
 replace CX := hmB CX hbl
 replace RES := hmB RES hbl
 replace HW := hmW HW hbl; clear hbl
 clear CX0 CX1 CX2 CX3 CX4 CX5
 obtain ⟨CX0, CX1, CX2, CX3, CX4, CX5⟩ := CX.out.cs6
 refine (kCont_is _ _ _ _ SL.out HCO.out).mono ?_
 rintro e wv ⟨rfl, hwv⟩
 obtain rfl := hwv.symm
 clear hwv
 have hk : k = 1 ∨ ((k == 1) = false ∧ ¬ k = 1 ∧ (k != 1) = true) := by by_cases h : k = 1 <;> simp [h]
 rcases hk with rfl | ⟨a1, a2, a3⟩
 · obtain rfl : v = false := by simpa using HX.out
   go_wp2_with fail
   refine (KT.out _).mono ?_
   rintro e wv ⟨rfl, hwv⟩
   obtain rfl := hwv.symm
   clear hwv
   obtain ⟨d0, d1, d2, d3, d4, d5⟩ := RES.out.cs6
   obtain ⟨f0, f1, f2, f3, f4, f5⟩ := RES.out.fz6
   go_wp2
   exact bodyPost_ret (results_row_tmp rfl _ _ (w.heap.size + 1) 27 _ (0, 0) _ _ rfl rfl (RES.out.put6 _ _ _ _ _ _) Tryz.underlying27 rfl (by kernel_rfl)) rfl ⟨_, _, rfl, (RdN.set6 RES.out rfl (RdN.none0 _) _ _ _ _ _ _), (RdN.set6 RES.out rfl (RdN.none0 _) _ _ _ _ _ _), (bel_set6 (g := w.heap.size + 1) HW.out (by omega) _ _ _ _ _ _)⟩
 · obtain ⟨d0, d1, d2, d3, d4, d5⟩ := RES.out.cs6
   obtain ⟨f0, f1, f2, f3, f4, f5⟩ := RES.out.fz6
   go_wp2
   exact bodyPost_ret (results_row_tmp rfl _ _ (w.heap.size + 1) 27 _ (0, 0) _ _ rfl rfl (RES.out.put6 _ _ _ _ _ _) Tryz.underlying27 rfl (by kernel_rfl)) rfl ⟨_, _, rfl, (RdN.set6 RES.out rfl (RdN.none0 _) _ _ _ _ _ _), (RdN.set6 RES.out rfl (RdN.none0 _) _ _ _ _ _ _), (bel_set6 (g := w.heap.size + 1) HW.out (by omega) _ _ _ _ _ _)⟩
theorem kUn_type (op : ByteArray) (k : Int) (b g : Bool) (s : ByteArray) (A B : Option Addr) (c d : Nat) (xs ys : List Nat) (t : Int) (w : World) (h1 : RdL w A xs) (h2 : RdL w B ys) (m1 : Lim xs) (m2 : Lim ys) (l1 : xs.length ≤ 18) (l2 : ys.length ≤ 18) (k1 : xs.length ≤ c) (k2 : ys.length ≤ d) (hr : rightV k b s g xs ys = true) (hb : basB t = true) (n1 : op ≠ ⟨#[33]⟩) (hco : Lib.containsS opsU op = true) (hx : ¬ (k = 3 ∧ numB t = true)) :
 Calls Tryz.prog 14 #[.string op, .agg #[.int .i64 k, .bool b, .string s, .bool g, .slice A xs.length c, .slice B ys.length d], .int .i64 t] w (RetV 0 false ⟨#[]⟩ noQ 11 w) := by
 obtain ⟨s1, u1⟩ := str_no (l := [33]) (t := ⟨#[33]⟩) (by rw [ByteArray.toList_eq]) n1
 have HSN := Lib.hid n1; clear n1
 obtain ⟨v, hv⟩ : ∃ v, numB t = v := ⟨_, rfl⟩
 have KN := Lib.hid (fun W => kNum_is t W hv)
 rw [hv] at hx; clear hv
 have HX := Lib.hid hx; clear hx
 have R1 := Lib.hid h1; clear h1
 have R2 := Lib.hid h2; clear h2
 have ML := Lib.hid (And.intro m1 (And.intro m2 (And.intro l1 (And.intro l2 (And.intro k1 k2))))); clear m1 m2 l1 l2 k1 k2
 have HR := Lib.hid hr; clear hr
 have KB := Lib.hid (fun W => kBas_is t W hb); clear hb
 have HCO := Lib.hid hco; clear hco
 obtain ⟨wa, hwa⟩ : ∃ wa, wa = (w.alloc (.cells #[.int .i64 k, .bool b, .string s, .bool g, .slice A xs.length c, .slice B ys.length d] 27)).alloc (.cells #[.int .i64 0, .bool false, .string ⟨#[]⟩, .bool false, .slice none 0 0, .slice none 0 0] 27) := ⟨_, rfl⟩
 obtain ⟨hbl, CX, RES⟩ := kal2 hwa
 replace R1 := hmR R1 hbl
 replace R2 := hmR R2 hbl
 have HW := Lib.hid hbl; clear hbl
 replace CX := Lib.hid CX
 replace RES := Lib.hid RES
 go_enter Tryz.func14, Tryz.ntmps14
 go_upto_region 1 with fail
 rw [← hwa]
 clear hwa
 obtain ⟨CX0, CX1, CX2, CX3, CX4, CX5⟩ := CX.out.cs6
 go_wp2_with fail
 refine (kRight_any k b s g A B c d xs ys _ R1.out R2.out ML.out.1 ML.out.2.1 ML.out.2.2.1 ML.out.2.2.2.1 ML.out.2.2.2.2.1 ML.out.2.2.2.2.2).mono ?_
 rintro e w1 ⟨rfl, hbl⟩
 replace R1 := hmR R1 hbl
 replace R2 := hmR R2 hbl
 replace CX := hmB CX hbl
 replace RES := hmB RES hbl
 replace HW := hmW HW hbl; clear hbl
 clear CX0 CX1 CX2 CX3 CX4 CX5
 obtain ⟨CX0, CX1, CX2, CX3, CX4, CX5⟩ := CX.out.cs6
 rw [HR.out]
 go_wp2_with fail
 refine (KB.out _).mono ?_
 rintro e wv ⟨rfl, hwv⟩
 obtain rfl := hwv.symm
 clear hwv
 go_wp2_with fail
 obtain ⟨w30, hw30⟩ : ∃ w30, w30 = w1.alloc (.cells #[.string ⟨#[33]⟩, .string ⟨#[43]⟩, .string ⟨#[45]⟩, .string ⟨#[94]⟩] 9) := ⟨_, rfl⟩
 rw [← hw30]
 obtain ⟨hbl, SL⟩ := sal1 hw30
 clear hw30
 replace R1 := hmR R1 hbl
 replace R2 := hmR R2 hbl
 replace CX := hmB CX hbl
 replace RES := hmB RES hbl
 replace HW := hmW HW hbl; clear hbl
 clear CX0 CX1 CX2 CX3 CX4 CX5
 obtain ⟨CX0, CX1, CX2, CX3, CX4, CX5⟩ := CX.out.cs6
 refine (kCont_is _ _ _ _ SL.out HCO.out).mono ?_
 rintro e wv ⟨rfl, hwv⟩
 obtain rfl := hwv.symm
 clear hwv
 have hk : k = 3 ∨ ((k == 3) = false ∧ ¬ k = 3 ∧ (k != 3) = true) := by by_cases h : k = 3 <;> simp [h]
 rcases hk with rfl | ⟨a1, a2, a3⟩
 · obtain rfl : v = false := by simpa using HX.out
   go_wp2_with fail
   refine (KN.out _).mono ?_
   rintro e wv ⟨rfl, hwv⟩
   obtain rfl := hwv.symm
   clear hwv
   obtain ⟨d0, d1, d2, d3, d4, d5⟩ := RES.out.cs6
   obtain ⟨f0, f1, f2, f3, f4, f5⟩ := RES.out.fz6
   go_wp2
   exact bodyPost_ret (results_row_tmp rfl _ _ (w.heap.size + 1) 27 _ (0, 0) _ _ rfl rfl (RES.out.put6 _ _ _ _ _ _) Tryz.underlying27 rfl (by kernel_rfl)) rfl ⟨_, _, rfl, (RdN.set6 RES.out rfl (RdN.none0 _) _ _ _ _ _ _), (RdN.set6 RES.out rfl (RdN.none0 _) _ _ _ _ _ _), (bel_set6 (g := w.heap.size + 1) HW.out (by omega) _ _ _ _ _ _)⟩
 · obtain ⟨d0, d1, d2, d3, d4, d5⟩ := RES.out.cs6
   obtain ⟨f0, f1, f2, f3, f4, f5⟩ := RES.out.fz6
   go_wp2
   exact bodyPost_ret (results_row_tmp rfl _ _ (w.heap.size + 1) 27 _ (0, 0) _ _ rfl rfl (RES.out.put6 _ _ _ _ _ _) Tryz.underlying27 rfl (by kernel_rfl)) rfl ⟨_, _, rfl, (RdN.set6 RES.out rfl (RdN.none0 _) _ _ _ _ _ _), (RdN.set6 RES.out rfl (RdN.none0 _) _ _ _ _ _ _), (bel_set6 (g := w.heap.size + 1) HW.out (by omega) _ _ _ _ _ _)⟩
theorem kUn_frac (t : Int) (q : Q) (A B : Option Addr) (c d : Nat) (w : World) (h : RdL w A (limbs q.n)) (h' : RdL w B (limbs q.d)) (hc : (limbs q.n).length ≤ c) (hc' : (limbs q.d).length ≤ d) (hn : q.n < Top) (hd : q.d < Top) (hq : QR q) (hb : basB t = true) (hnum : numB t = true) (hx : ¬ (q.d = 1 ∧ wholeB t = true)) :
 Calls Tryz.prog 14 #[.string ⟨#[94]⟩, .agg #[.int .i64 3, .bool false, .string ⟨#[]⟩, .bool q.s, .slice A (limbs q.n).length c, .slice B (limbs q.d).length d], .int .i64 t] w (RetV 0 false ⟨#[]⟩ noQ 11 w) := by
 have KN := Lib.hid (fun W => kNum_is t W hnum); clear hnum
 obtain ⟨v, hv⟩ : ∃ v, wholeB t = v := ⟨_, rfl⟩
 have KW := Lib.hid (fun W => kWhole_is t W hv)
 rw [hv] at hx; clear hv
 have HX := Lib.hid hx; clear hx
 have hco : Lib.containsS opsU ⟨#[94]⟩ = true := by decide +kernel
 have RA := Lib.hid h; clear h
 have RB := Lib.hid h'; clear h'
 have LA := Lib.hid (And.intro hn hc); clear hn hc
 have LB := Lib.hid (And.intro hd hc'); clear hd hc'
 have QQ := Lib.hid hq; clear hq
 have KB := Lib.hid (fun W => kBas_is t W hb); clear hb
 have HCO := Lib.hid hco; clear hco
 obtain ⟨wa, hwa⟩ : ∃ wa, wa = (w.alloc (.cells #[.int .i64 3, .bool false, .string ⟨#[]⟩, .bool q.s, .slice A (limbs q.n).length c, .slice B (limbs q.d).length d] 27)).alloc (.cells #[.int .i64 0, .bool false, .string ⟨#[]⟩, .bool false, .slice none 0 0, .slice none 0 0] 27) := ⟨_, rfl⟩
 obtain ⟨hbl, CX, RES⟩ := kal2 hwa
 replace RA := hmR RA hbl
 replace RB := hmR RB hbl
 have HW := Lib.hid hbl; clear hbl
 replace CX := Lib.hid CX
 replace RES := Lib.hid RES
 go_enter Tryz.func14, Tryz.ntmps14
 go_upto_region 1 with fail
 rw [← hwa]
 clear hwa
 obtain ⟨CX0, CX1, CX2, CX3, CX4, CX5⟩ := CX.out.cs6
 go_wp2_with fail
 refine (kRight_any 3 false ⟨#[]⟩ q.s A B c d (limbs q.n) (limbs q.d) _ RA.out RB.out (limbs_lim _) (limbs_lim _) (len18 LA.out.1) (len18 LB.out.1) LA.out.2 LB.out.2).mono ?_
 rintro e w1 ⟨rfl, hbl⟩
 replace RA := hmR RA hbl
 replace RB := hmR RB hbl
 replace CX := hmB CX hbl
 replace RES := hmB RES hbl
 replace HW := hmW HW hbl; clear hbl
 clear CX0 CX1 CX2 CX3 CX4 CX5
 obtain ⟨CX0, CX1, CX2, CX3, CX4, CX5⟩ := CX.out.cs6
 rw [rightV_num LA.out.1 LB.out.1 QQ.out]
 go_wp2_with fail
 refine (KB.out _).mono ?_
 rintro e wv ⟨rfl, hwv⟩
 obtain rfl := hwv.symm
 clear hwv
 go_wp2_with fail
 obtain ⟨w30, hw30⟩ : ∃ w30, w30 = w1.alloc (.cells #[.string ⟨#[33]⟩, .string ⟨#[43]⟩, .string ⟨#[45]⟩, .string ⟨#[94]⟩] 9) := ⟨_, rfl⟩
 rw [← hw30]
 obtain ⟨hbl, SL⟩ := sal1 hw30
 clear hw30
 replace RA := hmR RA hbl
 replace RB := hmR RB hbl
 replace CX := hmB CX hbl
 replace RES := hmB RES hbl
 replace HW := hmW HW hbl; clear hbl
 clear CX0 CX1 CX2 CX3 CX4 CX5
 obtain ⟨CX0, CX1, CX2, CX3, CX4, CX5⟩ := CX.out.cs6
 refine (kCont_is _ _ _ _ SL.out HCO.out).mono ?_
 rintro e wv ⟨rfl, hwv⟩
 obtain rfl := hwv.symm
 clear hwv
 go_wp2_with fail
 refine (KN.out _).mono ?_
 rintro e wv ⟨rfl, hwv⟩
 obtain rfl := hwv.symm
 clear hwv
 obtain ⟨u, hu⟩ : ∃ u, decide (q.d = 1) = u := ⟨_, rfl⟩
 have HU := Lib.hid hu; clear hu
 go_wp2_with fail
 refine (kIsW_num q A B c d _ RA.out RB.out LA.out.2 LB.out.2 LA.out.1 LB.out.1).mono ?_
 rintro e w2 ⟨rfl, hbl⟩
 replace RA := hmR RA hbl
 replace RB := hmR RB hbl
 replace CX := hmB CX hbl
 replace RES := hmB RES hbl
 replace SL := hmB SL hbl
 replace HW := hmW HW hbl; clear hbl
 clear CX0 CX1 CX2 CX3 CX4 CX5
 obtain ⟨CX0, CX1, CX2, CX3, CX4, CX5⟩ := CX.out.cs6
 rw [HU.out]
 cases u
 · obtain ⟨d0, d1, d2, d3, d4, d5⟩ := RES.out.cs6
   obtain ⟨f0, f1, f2, f3, f4, f5⟩ := RES.out.fz6
   go_wp2
   exact bodyPost_ret (results_row_tmp rfl _ _ (w.heap.size + 1) 27 _ (0, 0) _ _ rfl rfl (RES.out.put6 _ _ _ _ _ _) Tryz.underlying27 rfl (by kernel_rfl)) rfl ⟨_, _, rfl, (RdN.set6 RES.out rfl (RdN.none0 _) _ _ _ _ _ _), (RdN.set6 RES.out rfl (RdN.none0 _) _ _ _ _ _ _), (bel_set6 (g := w.heap.size + 1) HW.out (by omega) _ _ _ _ _ _)⟩
 · obtain rfl : v = false := by have h := HX.out; have h1 := of_decide_eq_true HU.out; simpa [h1] using h
   go_wp2_with fail
   refine (KW.out _).mono ?_
   rintro e wv ⟨rfl, hwv⟩
   obtain rfl := hwv.symm
   clear hwv
   obtain ⟨d0, d1, d2, d3, d4, d5⟩ := RES.out.cs6
   obtain ⟨f0, f1, f2, f3, f4, f5⟩ := RES.out.fz6
   go_wp2
   exact bodyPost_ret (results_row_tmp rfl _ _ (w.heap.size + 1) 27 _ (0, 0) _ _ rfl rfl (RES.out.put6 _ _ _ _ _ _) Tryz.underlying27 rfl (by kernel_rfl)) rfl ⟨_, _, rfl, (RdN.set6 RES.out rfl (RdN.none0 _) _ _ _ _ _ _), (RdN.set6 RES.out rfl (RdN.none0 _) _ _ _ _ _ _), (bel_set6 (g := w.heap.size + 1) HW.out (by omega) _ _ _ _ _ _)⟩
theorem kUn_plus {k1 r : Int} {v : Q} (t : Int) (q : Q) (A B : Option Addr) (c d : Nat) (w : World) (h : RdL w A (limbs q.n)) (h' : RdL w B (limbs q.d)) (hc : (limbs q.n).length ≤ c) (hc' : (limbs q.d).length ≤ d) (hn : q.n < Top) (hd : q.d < Top) (hq : QR q) (hb : basB t = true) (hnum : numB t = true) (hF : ∀ W A B c d, RdL W A (limbs q.n) → RdL W B (limbs q.d) → (limbs q.n).length ≤ c → (limbs q.d).length ≤ d → Calls Tryz.prog 29 #[.agg #[.int .i64 3, .bool false, .string ⟨#[]⟩, .bool q.s, .slice A (limbs q.n).length c, .slice B (limbs q.d).length d], .int .i64 t] W (RetV k1 false ⟨#[]⟩ v r W)) :
 Calls Tryz.prog 14 #[.string ⟨#[43]⟩, .agg #[.int .i64 3, .bool false, .string ⟨#[]⟩, .bool q.s, .slice A (limbs q.n).length c, .slice B (limbs q.d).length d], .int .i64 t] w (RetV k1 false ⟨#[]⟩ v r w) := by
 have KN := Lib.hid (fun W => kNum_is t W hnum); clear hnum
 have HFI := Lib.hid hF; clear hF
 have hco : Lib.containsS opsU ⟨#[43]⟩ = true := by decide +kernel
 have RA := Lib.hid h; clear h
 have RB := Lib.hid h'; clear h'
 have LA := Lib.hid (And.intro hn hc); clear hn hc
 have LB := Lib.hid (And.intro hd hc'); clear hd hc'
 have QQ := Lib.hid hq; clear hq
 have KB := Lib.hid (fun W => kBas_is t W hb); clear hb
 have HCO := Lib.hid hco; clear hco
 obtain ⟨wa, hwa⟩ : ∃ wa, wa = (w.alloc (.cells #[.int .i64 3, .bool false, .string ⟨#[]⟩, .bool q.s, .slice A (limbs q.n).length c, .slice B (limbs q.d).length d] 27)).alloc (.cells #[.int .i64 0, .bool false, .string ⟨#[]⟩, .bool false, .slice none 0 0, .slice none 0 0] 27) := ⟨_, rfl⟩
 obtain ⟨hbl, CX, RES⟩ := kal2 hwa
 replace RA := hmR RA hbl
 replace RB := hmR RB hbl
 have HW := Lib.hid hbl; clear hbl
 replace CX := Lib.hid CX
 replace RES := Lib.hid RES
 go_enter Tryz.func14, Tryz.ntmps14
 go_upto_region 1 with fail
 rw [← hwa]
 clear hwa
 obtain ⟨CX0, CX1, CX2, CX3, CX4, CX5⟩ := CX.out.cs6
 go_wp2_with fail
 refine (kRight_any 3 false ⟨#[]⟩ q.s A B c d (limbs q.n) (limbs q.d) _ RA.out RB.out (limbs_lim _) (limbs_lim _) (len18 LA.out.1) (len18 LB.out.1) LA.out.2 LB.out.2).mono ?_
 rintro e w1 ⟨rfl, hbl⟩
 replace RA := hmR RA hbl
 replace RB := hmR RB hbl
 replace CX := hmB CX hbl
 replace RES := hmB RES hbl
 replace HW := hmW HW hbl; clear hbl
 clear CX0 CX1 CX2 CX3 CX4 CX5
 obtain ⟨CX0, CX1, CX2, CX3, CX4, CX5⟩ := CX.out.cs6
 rw [rightV_num LA.out.1 LB.out.1 QQ.out]
 go_wp2_with fail
 refine (KB.out _).mono ?_
 rintro e wv ⟨rfl, hwv⟩
 obtain rfl := hwv.symm
 clear hwv
 go_wp2_with fail
 obtain ⟨w30, hw30⟩ : ∃ w30, w30 = w1.alloc (.cells #[.string ⟨#[33]⟩, .string ⟨#[43]⟩, .string ⟨#[45]⟩, .string ⟨#[94]⟩] 9) := ⟨_, rfl⟩
 rw [← hw30]
 obtain ⟨hbl, SL⟩ := sal1 hw30
 clear hw30
 replace RA := hmR RA hbl
 replace RB := hmR RB hbl
 replace CX := hmB CX hbl
 replace RES := hmB RES hbl
 replace HW := hmW HW hbl; clear hbl
 clear CX0 CX1 CX2 CX3 CX4 CX5
 obtain ⟨CX0, CX1, CX2, CX3, CX4, CX5⟩ := CX.out.cs6
 refine (kCont_is _ _ _ _ SL.out HCO.out).mono ?_
 rintro e wv ⟨rfl, hwv⟩
 obtain rfl := hwv.symm
 clear hwv
 go_wp2_with fail
 refine (KN.out _).mono ?_
 rintro e wv ⟨rfl, hwv⟩
 obtain rfl := hwv.symm
 clear hwv
 go_upto_region 10 with fail
 obtain ⟨w31, hw31⟩ : ∃ w31, w31 = w30.alloc (.cells #[.bool q.s, .slice A (limbs q.n).length c, .slice B (limbs q.d).length d] 25) := ⟨_, rfl⟩
 rw [← hw31]
 obtain ⟨hbl, CQ⟩ := sal1 hw31
 clear hw31
 replace RA := hmR RA hbl
 replace RB := hmR RB hbl
 replace CX := hmB CX hbl
 replace RES := hmB RES hbl
 replace SL := hmB SL hbl
 replace HW := hmW HW hbl; clear hbl
 clear CX0 CX1 CX2 CX3 CX4 CX5
 obtain ⟨CX0, CX1, CX2, CX3, CX4, CX5⟩ := CX.out.cs6
 obtain ⟨CQ0, CQ1, CQ2⟩ := CQ.out.cs3
 go_wp2_with fail
 refine (kNum_any q A B c d _ RA.out RB.out LA.out.2 LB.out.2).mono ?_
 rintro e w2 ⟨vz, vu, rfl, hnz, hnu, hbl⟩
 replace RA := hmR RA hbl
 replace RB := hmR RB hbl
 replace CX := hmB CX hbl
 replace RES := hmB RES hbl
 replace SL := hmB SL hbl
 replace CQ := hmB CQ hbl
 replace HW := hmW HW hbl; clear hbl
 clear CX0 CX1 CX2 CX3 CX4 CX5 CQ0 CQ1 CQ2
 obtain ⟨CX0, CX1, CX2, CX3, CX4, CX5⟩ := CX.out.cs6
 obtain ⟨CQ0, CQ1, CQ2⟩ := CQ.out.cs3
 have HNz := Lib.hid hnz; clear hnz
 obtain ⟨Az, cz, rfl, hcz, hrz⟩ := HNz.out.row
 have Rz := Lib.hid hrz; have HCz := Lib.hid hcz; clear hrz hcz
 have HNu := Lib.hid hnu; clear hnu
 obtain ⟨Au, cu, rfl, hcu, hru⟩ := HNu.out.row
 have Ru := Lib.hid hru; have HCu := Lib.hid hcu; clear hru hcu
 go_wp2_with fail
 refine (HFI.out _ Az Au cz cu Rz.out Ru.out HCz.out HCu.out).mono ?_
 rintro e w3 ⟨vx, vy, rfl, hx, hy, hbl⟩
 replace RA := hmR RA hbl
 replace RB := hmR RB hbl
 replace CX := hmB CX hbl
 replace RES := hmB RES hbl
 replace SL := hmB SL hbl
 replace CQ := hmB CQ hbl
 replace HW := hmW HW hbl; clear hbl
 clear CX0 CX1 CX2 CX3 CX4 CX5 CQ0 CQ1 CQ2
 obtain ⟨CX0, CX1, CX2, CX3, CX4, CX5⟩ := CX.out.cs6
 obtain ⟨CQ0, CQ1, CQ2⟩ := CQ.out.cs3
 obtain ⟨Ax, cx, rfl, hcx, hrx⟩ := hx.row
 obtain ⟨Ay, cy, rfl, hcy, hry⟩ := hy.row
 have HX := Lib.hid hx; have HY := Lib.hid hy; clear hx hy hcx hrx hcy hry
 obtain ⟨d0, d1, d2, d3, d4, d5⟩ := RES.out.cs6
 obtain ⟨f0, f1, f2, f3, f4, f5⟩ := RES.out.fz6
 go_wp2
 exact bodyPost_ret (results_row_tmp rfl _ _ (w.heap.size + 1) 27 _ (0, 0) _ _ rfl rfl (RES.out.put6 _ _ _ _ _ _) Tryz.underlying27 rfl (by kernel_rfl)) rfl ⟨_, _, rfl, (RdN.set6 RES.out rfl (HX.out) _ _ _ _ _ _), (RdN.set6 RES.out rfl (HY.out) _ _ _ _ _ _), (bel_set6 (g := w.heap.size + 1) HW.out (by omega) _ _ _ _ _ _)⟩
theorem kUn_minus {k1 r : Int} {m v : Q} (t : Int) (q : Q) (A B : Option Addr) (c d : Nat) (w : World) (h : RdL w A (limbs q.n)) (h' : RdL w B (limbs q.d)) (hc : (limbs q.n).length ≤ c) (hc' : (limbs q.d).length ≤ d) (hn : q.n < Top) (hd : q.d < Top) (hq : QR q) (hb : basB t = true) (hnum : numB t = true) (hM : ∀ W, RdL W A (limbs q.n) → RdL W B (limbs q.d) → Calls Tryz.prog 46 #[.agg #[.bool q.s, .slice A (limbs q.n).length c, .slice B (limbs q.d).length d]] W (RetQv m W)) (hF : ∀ W A B c d, RdL W A (limbs m.n) → RdL W B (limbs m.d) → (limbs m.n).length ≤ c → (limbs m.d).length ≤ d → Calls Tryz.prog 29 #[.agg #[.int .i64 3, .bool false, .string ⟨#[]⟩, .bool m.s, .slice A (limbs m.n).length c, .slice B (limbs m.d).length d], .int .i64 t] W (RetV k1 false ⟨#[]⟩ v r W)) :
 Calls Tryz.prog 14 #[.string ⟨#[45]⟩, .agg #[.int .i64 3, .bool false, .string ⟨#[]⟩, .bool q.s, .slice A (limbs q.n).length c, .slice B (limbs q.d).length d], .int .i64 t] w (RetV k1 false ⟨#[]⟩ v r w) := by
 have KN := Lib.hid (fun W => kNum_is t W hnum); clear hnum
 have HFI := Lib.hid hF; clear hF
 have HMI := Lib.hid hM; clear hM
 have hco : Lib.containsS opsU ⟨#[45]⟩ = true := by decide +kernel
 have RA := Lib.hid h; clear h
 have RB := Lib.hid h'; clear h'
 have LA := Lib.hid (And.intro hn hc); clear hn hc
 have LB := Lib.hid (And.intro hd hc'); clear hd hc'
 have QQ := Lib.hid hq; clear hq
 have KB := Lib.hid (fun W => kBas_is t W hb); clear hb
 have HCO := Lib.hid hco; clear hco
 obtain ⟨wa, hwa⟩ : ∃ wa, wa = (w.alloc (.cells #[.int .i64 3, .bool false, .string ⟨#[]⟩, .bool q.s, .slice A (limbs q.n).length c, .slice B (limbs q.d).length d] 27)).alloc (.cells #[.int .i64 0, .bool false, .string ⟨#[]⟩, .bool false, .slice none 0 0, .slice none 0 0] 27) := ⟨_, rfl⟩
 obtain ⟨hbl, CX, RES⟩ := kal2 hwa
 replace RA := hmR RA hbl
 replace RB := hmR RB hbl
 have HW := Lib.hid hbl; clear hbl
 replace CX := Lib.hid CX
 replace RES := Lib.hid RES
 go_enter Tryz.func14, Tryz.ntmps14
 go_upto_region 1 with fail
 rw [← hwa]
 clear hwa
 obtain ⟨CX0, CX1, CX2, CX3, CX4, CX5⟩ := CX.out.cs6
 go_wp2_with fail
 refine (kRight_any 3 false ⟨#[]⟩ q.s A B c d (limbs q.n) (limbs q.d) _ RA.out RB.out (limbs_lim _) (limbs_lim _) (len18 LA.out.1) (len18 LB.out.1) LA.out.2 LB.out.2).mono ?_
 rintro e w1 ⟨rfl, hbl⟩
 replace RA := hmR RA hbl
 replace RB := hmR RB hbl
 replace CX := hmB CX hbl
 replace RES := hmB RES hbl
 replace HW := hmW HW hbl; clear hbl
 clear CX0 CX1 CX2 CX3 CX4 CX5
 obtain ⟨CX0, CX1, CX2, CX3, CX4, CX5⟩ := CX.out.cs6
 rw [rightV_num LA.out.1 LB.out.1 QQ.out]
 go_wp2_with fail
 refine (KB.out _).mono ?_
 rintro e wv ⟨rfl, hwv⟩
 obtain rfl := hwv.symm
 clear hwv
 go_wp2_with fail
 obtain ⟨w30, hw30⟩ : ∃ w30, w30 = w1.alloc (.cells #[.string ⟨#[33]⟩, .string ⟨#[43]⟩, .string ⟨#[45]⟩, .string ⟨#[94]⟩] 9) := ⟨_, rfl⟩
 rw [← hw30]
 obtain ⟨hbl, SL⟩ := sal1 hw30
 clear hw30
 replace RA := hmR RA hbl
 replace RB := hmR RB hbl
 replace CX := hmB CX hbl
 replace RES := hmB RES hbl
 replace HW := hmW HW hbl; clear hbl
 clear CX0 CX1 CX2 CX3 CX4 CX5
 obtain ⟨CX0, CX1, CX2, CX3, CX4, CX5⟩ := CX.out.cs6
 refine (kCont_is _ _ _ _ SL.out HCO.out).mono ?_
 rintro e wv ⟨rfl, hwv⟩
 obtain rfl := hwv.symm
 clear hwv
 go_wp2_with fail
 refine (KN.out _).mono ?_
 rintro e wv ⟨rfl, hwv⟩
 obtain rfl := hwv.symm
 clear hwv
 have CX_lt := CX.out.lt
 have RES_lt := RES.out.lt
 have SL_lt := SL.out.lt
 have hge_ := HW.out.size
 go_upto_region 10 with fail
 obtain ⟨w31, hw31⟩ : ∃ w31, w31 = w30.alloc (.cells #[.bool q.s, .slice A (limbs q.n).length c, .slice B (limbs q.d).length d] 25) := ⟨_, rfl⟩
 rw [← hw31]
 obtain ⟨hbl, CQ⟩ := sal1 hw31
 clear hw31
 replace RA := hmR RA hbl
 replace RB := hmR RB hbl
 replace CX := hmB CX hbl
 replace RES := hmB RES hbl
 replace SL := hmB SL hbl
 replace HW := hmW HW hbl; clear hbl
 clear CX0 CX1 CX2 CX3 CX4 CX5
 obtain ⟨CX0, CX1, CX2, CX3, CX4, CX5⟩ := CX.out.cs6
 obtain ⟨CQ0, CQ1, CQ2⟩ := CQ.out.cs3
 have hne_CX : w.heap.size ≠ w30.heap.size := Nat.ne_of_lt (Nat.lt_of_lt_of_le CX_lt (Nat.le_refl _))
 have hne_RES : w.heap.size + 1 ≠ w30.heap.size := Nat.ne_of_lt (Nat.lt_of_lt_of_le RES_lt (Nat.le_refl _))
 have hne_SL : w1.heap.size ≠ w30.heap.size := Nat.ne_of_lt (Nat.lt_of_lt_of_le SL_lt (Nat.le_refl _))
 go_wp2_with fail
 refine (HMI.out _ RA.out RB.out).mono ?_
 rintro e w2 ⟨vx, vy, rfl, hnx, hny, hbl⟩
 replace RA := hmR RA hbl
 replace RB := hmR RB hbl
 replace CX := hmB CX hbl
 replace RES := hmB RES hbl
 replace SL := hmB SL hbl
 replace CQ := hmB CQ hbl
 replace HW := hmW HW hbl; clear hbl
 clear CX0 CX1 CX2 CX3 CX4 CX5 CQ0 CQ1 CQ2
 obtain ⟨CX0, CX1, CX2, CX3, CX4, CX5⟩ := CX.out.cs6
 obtain ⟨CQ0, CQ1, CQ2⟩ := CQ.out.cs3
 have HNx := Lib.hid hnx; clear hnx
 obtain ⟨Ax, cx, rfl, hcx, hrx⟩ := HNx.out.row
 have Rx := Lib.hid hrx; have HCx := Lib.hid hcx; clear hrx hcx
 have HNy := Lib.hid hny; clear hny
 obtain ⟨Ay, cy, rfl, hcy, hry⟩ := HNy.out.row
 have Ry := Lib.hid hry; have HCy := Lib.hid hcy; clear hry hcy
 obtain ⟨y0, y1, y2⟩ := CQ.out.fz3
 go_upto_region 15 with fail
 clear y0 y1 y2
 obtain ⟨w32, hw32⟩ : ∃ w32, w32 = ((w2.setCell ⟨w30.heap.size, 0, none⟩ (.bool m.s)).setCell ⟨w30.heap.size, 1, none⟩ (.slice Ax (limbs m.n).length cx)).setCell ⟨w30.heap.size, 2, none⟩ (.slice Ay (limbs m.d).length cy) := ⟨_, rfl⟩
 rw [← hw32]
 have RA_ := Lib.hid (show RdL w32 _ _ by rw [hw32]; exact RdL.set3 CQ.out RA.out (.bool m.s) (.slice Ax (limbs m.n).length cx) (.slice Ay (limbs m.d).length cy))
 have RB_ := Lib.hid (show RdL w32 _ _ by rw [hw32]; exact RdL.set3 CQ.out RB.out (.bool m.s) (.slice Ax (limbs m.n).length cx) (.slice Ay (limbs m.d).length cy))
 have Rx_ := Lib.hid (show RdL w32 _ _ by rw [hw32]; exact RdL.set3 CQ.out Rx.out (.bool m.s) (.slice Ax (limbs m.n).length cx) (.slice Ay (limbs m.d).length cy))
 have Ry_ := Lib.hid (show RdL w32 _ _ by rw [hw32]; exact RdL.set3 CQ.out Ry.out (.bool m.s) (.slice Ax (limbs m.n).length cx) (.slice Ay (limbs m.d).length cy))
 have CX_ := Lib.hid (show Blk w32 (w.heap.size) 27 #[.int .i64 3, .bool false, .string ⟨#[]⟩, .bool q.s, .slice A (limbs q.n).length c, .slice B (limbs q.d).length d] by rw [hw32]; exact ((CX.out.far (p := ⟨w30.heap.size, 0, none⟩) (hne_CX) _).far (p := ⟨w30.heap.size, 1, none⟩) (hne_CX) _).far (p := ⟨w30.heap.size, 2, none⟩) (hne_CX) _)
 have RES_ := Lib.hid (show Blk w32 (w.heap.size + 1) 27 #[.int .i64 0, .bool false, .string ⟨#[]⟩, .bool false, .slice none 0 0, .slice none 0 0] by rw [hw32]; exact ((RES.out.far (p := ⟨w30.heap.size, 0, none⟩) (hne_RES) _).far (p := ⟨w30.heap.size, 1, none⟩) (hne_RES) _).far (p := ⟨w30.heap.size, 2, none⟩) (hne_RES) _)
 have SL_ := Lib.hid (show Blk w32 (w1.heap.size) 9 #[.string ⟨#[33]⟩, .string ⟨#[43]⟩, .string ⟨#[45]⟩, .string ⟨#[94]⟩] by rw [hw32]; exact ((SL.out.far (p := ⟨w30.heap.size, 0, none⟩) (hne_SL) _).far (p := ⟨w30.heap.size, 1, none⟩) (hne_SL) _).far (p := ⟨w30.heap.size, 2, none⟩) (hne_SL) _)
 have CQ_ := Lib.hid (show Blk w32 (w30.heap.size) 25 #[.bool m.s, .slice Ax (limbs m.n).length cx, .slice Ay (limbs m.d).length cy] by rw [hw32]; exact CQ.out.put3 (.bool m.s) (.slice Ax (limbs m.n).length cx) (.slice Ay (limbs m.d).length cy))
 have HW_ := Lib.hid (show Below w.heap.size w w32 by rw [hw32]; exact bel_set3 (g := w30.heap.size) HW.out hge_ (.bool m.s) (.slice Ax (limbs m.n).length cx) (.slice Ay (limbs m.d).length cy))
 replace RA := RA_; clear RA_
 replace RB := RB_; clear RB_
 replace Rx := Rx_; clear Rx_
 replace Ry := Ry_; clear Ry_
 replace CX := CX_; clear CX_
 replace RES := RES_; clear RES_
 replace SL := SL_; clear SL_
 replace CQ := CQ_; clear CQ_
 replace HW := HW_; clear HW_
 clear hw32
 clear CX0 CX1 CX2 CX3 CX4 CX5 CQ0 CQ1 CQ2
 obtain ⟨CX0, CX1, CX2, CX3, CX4, CX5⟩ := CX.out.cs6
 obtain ⟨CQ0, CQ1, CQ2⟩ := CQ.out.cs3
 go_wp2_with fail
 refine (kNum_any m Ax Ay cx cy _ Rx.out Ry.out HCx.out HCy.out).mono ?_
 rintro e w3 ⟨vz, vu, rfl, hnz, hnu, hbl⟩
 replace RA := hmR RA hbl
 replace RB := hmR RB hbl
 replace Rx := hmR Rx hbl
 replace Ry := hmR Ry hbl
 replace CX := hmB CX hbl
 replace RES := hmB RES hbl
 replace SL := hmB SL hbl
 replace CQ := hmB CQ hbl
 replace HW := hmW HW hbl; clear hbl
 clear CX0 CX1 CX2 CX3 CX4 CX5 CQ0 CQ1 CQ2
 obtain ⟨CX0, CX1, CX2, CX3, CX4, CX5⟩ := CX.out.cs6
 obtain ⟨CQ0, CQ1, CQ2⟩ := CQ.out.cs3
 have HNz := Lib.hid hnz; clear hnz
 obtain ⟨Az, cz, rfl, hcz, hrz⟩ := HNz.out.row
 have Rz := Lib.hid hrz; have HCz := Lib.hid hcz; clear hrz hcz
 have HNu := Lib.hid hnu; clear hnu
 obtain ⟨Au, cu, rfl, hcu, hru⟩ := HNu.out.row
 have Ru := Lib.hid hru; have HCu := Lib.hid hcu; clear hru hcu
 go_wp2_with fail
 refine (HFI.out _ Az Au cz cu Rz.out Ru.out HCz.out HCu.out).mono ?_
 rintro e w4 ⟨vx, vy, rfl, hx, hy, hbl⟩
 replace RA := hmR RA hbl
 replace RB := hmR RB hbl
 replace Rx := hmR Rx hbl
 replace Ry := hmR Ry hbl
 replace CX := hmB CX hbl
 replace RES := hmB RES hbl
 replace SL := hmB SL hbl
 replace CQ := hmB CQ hbl
 replace HW := hmW HW hbl; clear hbl
 clear CX0 CX1 CX2 CX3 CX4 CX5 CQ0 CQ1 CQ2
 obtain ⟨CX0, CX1, CX2, CX3, CX4, CX5⟩ := CX.out.cs6
 obtain ⟨CQ0, CQ1, CQ2⟩ := CQ.out.cs3
 obtain ⟨Ax, cx, rfl, hcx, hrx⟩ := hx.row
 obtain ⟨Ay, cy, rfl, hcy, hry⟩ := hy.row
 have HX := Lib.hid hx; have HY := Lib.hid hy; clear hx hy hcx hrx hcy hry
 obtain ⟨d0, d1, d2, d3, d4, d5⟩ := RES.out.cs6
 obtain ⟨f0, f1, f2, f3, f4, f5⟩ := RES.out.fz6
 go_wp2
 exact bodyPost_ret (results_row_tmp rfl _ _ (w.heap.size + 1) 27 _ (0, 0) _ _ rfl rfl (RES.out.put6 _ _ _ _ _ _) Tryz.underlying27 rfl (by kernel_rfl)) rfl ⟨_, _, rfl, (RdN.set6 RES.out rfl (HX.out) _ _ _ _ _ _), (RdN.set6 RES.out rfl (HY.out) _ _ _ _ _ _), (bel_set6 (g := w.heap.size + 1) HW.out (by omega) _ _ _ _ _ _)⟩
set_option maxHeartbeats 2000000 in
theorem kUn_hat {k1 r e : Int} {m v : Q} (t : Int) (q : Q) (A B : Option Addr) (c d : Nat) (w : World) (h : RdL w A (limbs q.n)) (h' : RdL w B (limbs q.d)) (hc : (limbs q.n).length ≤ c) (hc' : (limbs q.d).length ≤ d) (hn : q.n < Top) (hd : q.d < Top) (hq : QR q) (hb : basB t = true) (hnum : numB t = true) (hw : wholeB t = true) (hd1 : q.d = 1) (hM : ∀ W, RdL W A (limbs q.n) → RdL W B (limbs q.d) → Calls Tryz.prog 47 #[.agg #[.bool q.s, .slice A (limbs q.n).length c, .slice B (limbs q.d).length d], .int .i64 t] W (RetQE m e W)) (hF : e = 0 → ∀ W A B c d, RdL W A (limbs m.n) → RdL W B (limbs m.d) → (limbs m.n).length ≤ c → (limbs m.d).length ≤ d → Calls Tryz.prog 29 #[.agg #[.int .i64 3, .bool false, .string ⟨#[]⟩, .bool m.s, .slice A (limbs m.n).length c, .slice B (limbs m.d).length d], .int .i64 t] W (RetV k1 false ⟨#[]⟩ v r W)) (hE2 : e ≠ 0 → v = noQ ∧ r = e ∧ k1 = 0) :
 Calls Tryz.prog 14 #[.string ⟨#[94]⟩, .agg #[.int .i64 3, .bool false, .string ⟨#[]⟩, .bool q.s, .slice A (limbs q.n).length c, .slice B (limbs q.d).length d], .int .i64 t] w (RetV k1 false ⟨#[]⟩ v r w) := by
 have KN := Lib.hid (fun W => kNum_is t W hnum); clear hnum
 have KW := Lib.hid (fun W => kWhole_is t W hw); clear hw
 have HDA := Lib.hid (decide_eq_true hd1); clear hd1
 have HMI := Lib.hid hM; clear hM
 have HFI := Lib.hid hF; clear hF
 have HE2 := Lib.hid hE2; clear hE2
 have hco : Lib.containsS opsU ⟨#[94]⟩ = true := by decide +kernel
 have RA := Lib.hid h; clear h
 have RB := Lib.hid h'; clear h'
 have LA := Lib.hid (And.intro hn hc); clear hn hc
 have LB := Lib.hid (And.intro hd hc'); clear hd hc'
 have QQ := Lib.hid hq; clear hq
 have KB := Lib.hid (fun W => kBas_is t W hb); clear hb
 have HCO := Lib.hid hco; clear hco
 obtain ⟨wa, hwa⟩ : ∃ wa, wa = (w.alloc (.cells #[.int .i64 3, .bool false, .string ⟨#[]⟩, .bool q.s, .slice A (limbs q.n).length c, .slice B (limbs q.d).length d] 27)).alloc (.cells #[.int .i64 0, .bool false, .string ⟨#[]⟩, .bool false, .slice none 0 0, .slice none 0 0] 27) := ⟨_, rfl⟩
 obtain ⟨hbl, CX, RES⟩ := kal2 hwa
 replace RA := hmR RA hbl
 replace RB := hmR RB hbl
 have HW := Lib.hid hbl; clear hbl
 replace CX := Lib.hid CX
 replace RES := Lib.hid RES
 go_enter Tryz.func14, Tryz.ntmps14
 go_upto_region 1 with fail
 rw [← hwa]
 clear hwa
 obtain ⟨CX0, CX1, CX2, CX3, CX4, CX5⟩ := CX.out.cs6
 go_wp2_with fail
 refine (kRight_any 3 false ⟨#[]⟩ q.s A B c d (limbs q.n) (limbs q.d) _ RA.out RB.out (limbs_lim _) (limbs_lim _) (len18 LA.out.1) (len18 LB.out.1) LA.out.2 LB.out.2).mono ?_
 rintro e w1 ⟨rfl, hbl⟩
 replace RA := hmR RA hbl
 replace RB := hmR RB hbl
 replace CX := hmB CX hbl
 replace RES := hmB RES hbl
 replace HW := hmW HW hbl; clear hbl
 clear CX0 CX1 CX2 CX3 CX4 CX5
 obtain ⟨CX0, CX1, CX2, CX3, CX4, CX5⟩ := CX.out.cs6
 rw [rightV_num LA.out.1 LB.out.1 QQ.out]
 go_wp2_with fail
 refine (KB.out _).mono ?_
 rintro e wv ⟨rfl, hwv⟩
 obtain rfl := hwv.symm
 clear hwv
 go_wp2_with fail
 obtain ⟨w30, hw30⟩ : ∃ w30, w30 = w1.alloc (.cells #[.string ⟨#[33]⟩, .string ⟨#[43]⟩, .string ⟨#[45]⟩, .string ⟨#[94]⟩] 9) := ⟨_, rfl⟩
 rw [← hw30]
 obtain ⟨hbl, SL⟩ := sal1 hw30
 clear hw30
 replace RA := hmR RA hbl
 replace RB := hmR RB hbl
 replace CX := hmB CX hbl
 replace RES := hmB RES hbl
 replace HW := hmW HW hbl; clear hbl
 clear CX0 CX1 CX2 CX3 CX4 CX5
 obtain ⟨CX0, CX1, CX2, CX3, CX4, CX5⟩ := CX.out.cs6
 refine (kCont_is _ _ _ _ SL.out HCO.out).mono ?_
 rintro e wv ⟨rfl, hwv⟩
 obtain rfl := hwv.symm
 clear hwv
 go_wp2_with fail
 refine (KN.out _).mono ?_
 rintro e wv ⟨rfl, hwv⟩
 obtain rfl := hwv.symm
 clear hwv
 go_wp2_with fail
 refine (kIsW_num q A B c d _ RA.out RB.out LA.out.2 LB.out.2 LA.out.1 LB.out.1).mono ?_
 rintro e w2 ⟨rfl, hbl⟩
 replace RA := hmR RA hbl
 replace RB := hmR RB hbl
 replace CX := hmB CX hbl
 replace RES := hmB RES hbl
 replace SL := hmB SL hbl
 replace HW := hmW HW hbl; clear hbl
 clear CX0 CX1 CX2 CX3 CX4 CX5
 obtain ⟨CX0, CX1, CX2, CX3, CX4, CX5⟩ := CX.out.cs6
 rw [HDA.out]
 go_wp2_with fail
 refine (KW.out _).mono ?_
 rintro e wv ⟨rfl, hwv⟩
 obtain rfl := hwv.symm
 clear hwv
 have CX_lt := CX.out.lt
 have RES_lt := RES.out.lt
 have SL_lt := SL.out.lt
 have hge_ := HW.out.size
 go_upto_region 10 with fail
 obtain ⟨w31, hw31⟩ : ∃ w31, w31 = w2.alloc (.cells #[.bool q.s, .slice A (limbs q.n).length c, .slice B (limbs q.d).length d] 25) := ⟨_, rfl⟩
 rw [← hw31]
 obtain ⟨hbl, CQ⟩ := sal1 hw31
 clear hw31
 replace RA := hmR RA hbl
 replace RB := hmR RB hbl
 replace CX := hmB CX hbl
 replace RES := hmB RES hbl
 replace SL := hmB SL hbl
 replace HW := hmW HW hbl; clear hbl
 clear CX0 CX1 CX2 CX3 CX4 CX5
 obtain ⟨CX0, CX1, CX2, CX3, CX4, CX5⟩ := CX.out.cs6
 obtain ⟨CQ0, CQ1, CQ2⟩ := CQ.out.cs3
 have hne_CX : w.heap.size ≠ w2.heap.size := Nat.ne_of_lt (Nat.lt_of_lt_of_le CX_lt (Nat.le_refl _))
 have hne_RES : w.heap.size + 1 ≠ w2.heap.size := Nat.ne_of_lt (Nat.lt_of_lt_of_le RES_lt (Nat.le_refl _))
 have hne_SL : w1.heap.size ≠ w2.heap.size := Nat.ne_of_lt (Nat.lt_of_lt_of_le SL_lt (Nat.le_refl _))
 go_wp2_with fail
 refine (HMI.out _ RA.out RB.out).mono ?_
 rintro e w3 ⟨vx, vy, rfl, hnx, hny, hbl⟩
 replace RA := hmR RA hbl
 replace RB := hmR RB hbl
 replace CX := hmB CX hbl
 replace RES := hmB RES hbl
 replace SL := hmB SL hbl
 replace CQ := hmB CQ hbl
 replace HW := hmW HW hbl; clear hbl
 clear CX0 CX1 CX2 CX3 CX4 CX5 CQ0 CQ1 CQ2
 obtain ⟨CX0, CX1, CX2, CX3, CX4, CX5⟩ := CX.out.cs6
 obtain ⟨CQ0, CQ1, CQ2⟩ := CQ.out.cs3
 have HNx := Lib.hid hnx; clear hnx
 obtain ⟨Ax, cx, rfl, hcx, hrx⟩ := HNx.out.row
 have Rx := Lib.hid hrx; have HCx := Lib.hid hcx; clear hrx hcx
 have HNy := Lib.hid hny; clear hny
 obtain ⟨Ay, cy, rfl, hcy, hry⟩ := HNy.out.row
 have Ry := Lib.hid hry; have HCy := Lib.hid hcy; clear hry hcy
 obtain ⟨y0, y1, y2⟩ := CQ.out.fz3
 go_upto_region 15 with fail
 clear y0 y1 y2
 obtain ⟨w32, hw32⟩ : ∃ w32, w32 = ((w3.setCell ⟨w2.heap.size, 0, none⟩ (.bool m.s)).setCell ⟨w2.heap.size, 1, none⟩ (.slice Ax (limbs m.n).length cx)).setCell ⟨w2.heap.size, 2, none⟩ (.slice Ay (limbs m.d).length cy) := ⟨_, rfl⟩
 rw [← hw32]
 have RA_ := Lib.hid (show RdL w32 _ _ by rw [hw32]; exact RdL.set3 CQ.out RA.out (.bool m.s) (.slice Ax (limbs m.n).length cx) (.slice Ay (limbs m.d).length cy))
 have RB_ := Lib.hid (show RdL w32 _ _ by rw [hw32]; exact RdL.set3 CQ.out RB.out (.bool m.s) (.slice Ax (limbs m.n).length cx) (.slice Ay (limbs m.d).length cy))
 have Rx_ := Lib.hid (show RdL w32 _ _ by rw [hw32]; exact RdL.set3 CQ.out Rx.out (.bool m.s) (.slice Ax (limbs m.n).length cx) (.slice Ay (limbs m.d).length cy))
 have Ry_ := Lib.hid (show RdL w32 _ _ by rw [hw32]; exact RdL.set3 CQ.out Ry.out (.bool m.s) (.slice Ax (limbs m.n).length cx) (.slice Ay (limbs m.d).length cy))
 have CX_ := Lib.hid (show Blk w32 (w.heap.size) 27 #[.int .i64 3, .bool false, .string ⟨#[]⟩, .bool q.s, .slice A (limbs q.n).length c, .slice B (limbs q.d).length d] by rw [hw32]; exact ((CX.out.far (p := ⟨w2.heap.size, 0, none⟩) (hne_CX) _).far (p := ⟨w2.heap.size, 1, none⟩) (hne_CX) _).far (p := ⟨w2.heap.size, 2, none⟩) (hne_CX) _)
 have RES_ := Lib.hid (show Blk w32 (w.heap.size + 1) 27 #[.int .i64 0, .bool false, .string ⟨#[]⟩, .bool false, .slice none 0 0, .slice none 0 0] by rw [hw32]; exact ((RES.out.far (p := ⟨w2.heap.size, 0, none⟩) (hne_RES) _).far (p := ⟨w2.heap.size, 1, none⟩) (hne_RES) _).far (p := ⟨w2.heap.size, 2, none⟩) (hne_RES) _)
 have SL_ := Lib.hid (show Blk w32 (w1.heap.size) 9 #[.string ⟨#[33]⟩, .string ⟨#[43]⟩, .string ⟨#[45]⟩, .string ⟨#[94]⟩] by rw [hw32]; exact ((SL.out.far (p := ⟨w2.heap.size, 0, none⟩) (hne_SL) _).far (p := ⟨w2.heap.size, 1, none⟩) (hne_SL) _).far (p := ⟨w2.heap.size, 2, none⟩) (hne_SL) _)
 have CQ_ := Lib.hid (show Blk w32 (w2.heap.size) 25 #[.bool m.s, .slice Ax (limbs m.n).length cx, .slice Ay (limbs m.d).length cy] by rw [hw32]; exact CQ.out.put3 (.bool m.s) (.slice Ax (limbs m.n).length cx) (.slice Ay (limbs m.d).length cy))
 have HW_ := Lib.hid (show Below w.heap.size w w32 by rw [hw32]; exact bel_set3 (g := w2.heap.size) HW.out hge_ (.bool m.s) (.slice Ax (limbs m.n).length cx) (.slice Ay (limbs m.d).length cy))
 replace RA := RA_; clear RA_
 replace RB := RB_; clear RB_
 replace Rx := Rx_; clear Rx_
 replace Ry := Ry_; clear Ry_
 replace CX := CX_; clear CX_
 replace RES := RES_; clear RES_
 replace SL := SL_; clear SL_
 replace CQ := CQ_; clear CQ_
 replace HW := HW_; clear HW_
 clear hw32
 clear CX0 CX1 CX2 CX3 CX4 CX5 CQ0 CQ1 CQ2
 obtain ⟨CX0, CX1, CX2, CX3, CX4, CX5⟩ := CX.out.cs6
 obtain ⟨CQ0, CQ1, CQ2⟩ := CQ.out.cs3
 by_cases he : e = 0
 · subst he
   have HFI2 := Lib.hid (HFI.out rfl); clear HFI
   have HFI := HFI2; clear HFI2
   go_wp2_with fail
   refine (kNum_any m Ax Ay cx cy _ Rx.out Ry.out HCx.out HCy.out).mono ?_
   rintro e w4 ⟨vz, vu, rfl, hnz, hnu, hbl⟩
   replace RA := hmR RA hbl
   replace RB := hmR RB hbl
   replace Rx := hmR Rx hbl
   replace Ry := hmR Ry hbl
   replace CX := hmB CX hbl
   replace RES := hmB RES hbl
   replace SL := hmB SL hbl
   replace CQ := hmB CQ hbl
   replace HW := hmW HW hbl; clear hbl
   clear CX0 CX1 CX2 CX3 CX4 CX5 CQ0 CQ1 CQ2
   obtain ⟨CX0, CX1, CX2, CX3, CX4, CX5⟩ := CX.out.cs6
   obtain ⟨CQ0, CQ1, CQ2⟩ := CQ.out.cs3
   have HNz := Lib.hid hnz; clear hnz
   obtain ⟨Az, cz, rfl, hcz, hrz⟩ := HNz.out.row
   have Rz := Lib.hid hrz; have HCz := Lib.hid hcz; clear hrz hcz
   have HNu := Lib.hid hnu; clear hnu
   obtain ⟨Au, cu, rfl, hcu, hru⟩ := HNu.out.row
   have Ru := Lib.hid hru; have HCu := Lib.hid hcu; clear hru hcu
   go_wp2_with fail
   refine (HFI.out _ Az Au cz cu Rz.out Ru.out HCz.out HCu.out).mono ?_
   rintro e w5 ⟨vx, vy, rfl, hx, hy, hbl⟩
   replace RA := hmR RA hbl
   replace RB := hmR RB hbl
   replace Rx := hmR Rx hbl
   replace Ry := hmR Ry hbl
   replace CX := hmB CX hbl
   replace RES := hmB RES hbl
   replace SL := hmB SL hbl
   replace CQ := hmB CQ hbl
   replace HW := hmW HW hbl; clear hbl
   clear CX0 CX1 CX2 CX3 CX4 CX5 CQ0 CQ1 CQ2
   obtain ⟨CX0, CX1, CX2, CX3, CX4, CX5⟩ := CX.out.cs6
   obtain ⟨CQ0, CQ1, CQ2⟩ := CQ.out.cs3
   obtain ⟨Ax, cx, rfl, hcx, hrx⟩ := hx.row
   obtain ⟨Ay, cy, rfl, hcy, hry⟩ := hy.row
   have HX := Lib.hid hx; have HY := Lib.hid hy; clear hx hy hcx hrx hcy hry
   obtain ⟨d0, d1, d2, d3, d4, d5⟩ := RES.out.cs6
   obtain ⟨f0, f1, f2, f3, f4, f5⟩ := RES.out.fz6
   go_wp2
   exact bodyPost_ret (results_row_tmp rfl _ _ (w.heap.size + 1) 27 _ (0, 0) _ _ rfl rfl (RES.out.put6 _ _ _ _ _ _) Tryz.underlying27 rfl (by kernel_rfl)) rfl ⟨_, _, rfl, (RdN.set6 RES.out rfl (HX.out) _ _ _ _ _ _), (RdN.set6 RES.out rfl (HY.out) _ _ _ _ _ _), (bel_set6 (g := w.heap.size + 1) HW.out (by omega) _ _ _ _ _ _)⟩
 · obtain ⟨rfl, rfl, rfl⟩ := HE2.out he
   have e1 : (r != 0) = true := by simpa using he
   have HE := Lib.hid he
   obtain ⟨d0, d1, d2, d3, d4, d5⟩ := RES.out.cs6
   obtain ⟨f0, f1, f2, f3, f4, f5⟩ := RES.out.fz6
   go_wp2
   exact bodyPost_ret (results_row_tmp rfl _ _ (w.heap.size + 1) 27 _ (0, 0) _ _ rfl rfl (RES.out.put6 _ _ _ _ _ _) Tryz.underlying27 rfl (by kernel_rfl)) rfl ⟨_, _, rfl, (RdN.set6 RES.out rfl (RdN.none0 _) _ _ _ _ _ _), (RdN.set6 RES.out rfl (RdN.none0 _) _ _ _ _ _ _), (bel_set6 (g := w.heap.size + 1) HW.out (by omega) _ _ _ _ _ _)⟩
end
end Go.Proofs.YtmbbdjpnecjleaaGreat
