/-
 Parts: K30 K31.
-/
import Derived.Test.YtmbbdjpnecjleaaGreatH27
import Derived.Test.YtmbbdjpnecjleaaGreatH18
import Derived.BigQuiet
namespace Go.Proofs.YtmbbdjpnecjleaaGreat
section
set_option maxRecDepth 100000
set_option maxHeartbeats 1000000
open Go.RowKit

theorem limbs_pos15 {n : Nat} (h : ¬ n = 0) : 0 < (limbs n).length := by
 rcases Nat.eq_zero_or_pos (limbs n).length with h0 | h0
 · have h1 := lval_limbs n
   rw [List.eq_nil_of_length_eq_zero h0] at h1
   exact absurd h1.symm h
 · exact h0
theorem RdN.nil0 {w : World} {A : Option Addr} {c : Nat} : RdN w (.slice A 0 c) 0 := ⟨A, c, rfl, Nat.zero_le _, RdL.nil⟩
def RetQv (q : Q) (w : World) (e : Ending) (w' : World) : Prop := ∃ x y, e = .returned (.agg #[.bool q.s, x, y]) ∧ RdN w' x q.n ∧ RdN w' y q.d ∧ Below w.heap.size w w'
theorem kFitsV_a (k : Int) (b g : Bool) (s : ByteArray) (A B : Option Addr) (c d : Nat) (xs ys : List Nat) (t : Int) (w : World) (h1 : RdL w A xs) (h2 : RdL w B ys) (m1 : Lim xs) (m2 : Lim ys) (l1 : xs.length ≤ 18) (l2 : ys.length ≤ 18) (k1 : xs.length ≤ c) (k2 : ys.length ≤ d) (hr : rightV k b s g xs ys = false) :
 Calls Tryz.prog 13 #[.agg #[.int .i64 k, .bool b, .string s, .bool g, .slice A xs.length c, .slice B ys.length d], .int .i64 t] w (RetV 0 false ⟨#[]⟩ noQ 1 w) := by
 have R1 := Lib.hid h1; clear h1
 have R2 := Lib.hid h2; clear h2
 have ML := Lib.hid (And.intro m1 (And.intro m2 (And.intro l1 (And.intro l2 (And.intro k1 k2))))); clear m1 m2 l1 l2 k1 k2
 have HR := Lib.hid hr; clear hr
 obtain ⟨wa, hwa⟩ : ∃ wa, wa = (w.alloc (.cells #[.int .i64 k, .bool b, .string s, .bool g, .slice A xs.length c, .slice B ys.length d] 27)).alloc (.cells #[.int .i64 0, .bool false, .string ⟨#[]⟩, .bool false, .slice none 0 0, .slice none 0 0] 27) := ⟨_, rfl⟩
 obtain ⟨hbl, CX, RES⟩ := kal2 hwa
 replace R1 := hmR R1 hbl
 replace R2 := hmR R2 hbl
 have HW := Lib.hid hbl; clear hbl
 replace CX := Lib.hid CX
 replace RES := Lib.hid RES
 go_enter Tryz.func13, Tryz.ntmps13
 go_upto_region 1 with fail
 rw [← hwa]
 clear hwa
 obtain ⟨CX0, CX1, CX2, CX3, CX4, CX5⟩ := CX.out.cs6
 go_wp2_with fail
 refine (kRight_any k b s g A B c d xs ys _ R1.out R2.out ML.out.1 ML.out.2.1 ML.out.2.2.1 ML.out.2.2.2.1 ML.out.2.2.2.2.1 ML.out.2.2.2.2.2).mono ?_
 rintro e w1 ⟨rfl, hbl⟩
 replace R1 := hmR R1 hbl
 replace R2 := hmR R2 hbl
 replace CX := hmB CX hbl
 replace RES := hmB RES hbl
 replace HW := hmW HW hbl; clear hbl
 clear CX0 CX1 CX2 CX3 CX4 CX5
 obtain ⟨CX0, CX1, CX2, CX3, CX4, CX5⟩ := CX.out.cs6
 rw [HR.out]
 obtain ⟨d0, d1, d2, d3, d4, d5⟩ := RES.out.cs6
 obtain ⟨f0, f1, f2, f3, f4, f5⟩ := RES.out.fz6
 go_wp2
 exact bodyPost_ret (results_row_tmp rfl _ _ (w.heap.size + 1) 27 _ (0, 0) _ _ rfl rfl (RES.out.put6 _ _ _ _ _ _) Tryz.underlying27 rfl (by kernel_rfl)) rfl ⟨_, _, rfl, (RdN.set6 RES.out rfl (RdN.none0 _) _ _ _ _ _ _), (RdN.set6 RES.out rfl (RdN.none0 _) _ _ _ _ _ _), (bel_set6 (g := w.heap.size + 1) HW.out (by omega) _ _ _ _ _ _)⟩
theorem kFitsV_t (k : Int) (b g : Bool) (s : ByteArray) (A B : Option Addr) (c d : Nat) (xs ys : List Nat) (t : Int) (w : World) (h1 : RdL w A xs) (h2 : RdL w B ys) (m1 : Lim xs) (m2 : Lim ys) (l1 : xs.length ≤ 18) (l2 : ys.length ≤ 18) (k1 : xs.length ≤ c) (k2 : ys.length ≤ d) (hr : rightV k b s g xs ys = true) (hb : basB t = false) :
 Calls Tryz.prog 13 #[.agg #[.int .i64 k, .bool b, .string s, .bool g, .slice A xs.length c, .slice B ys.length d], .int .i64 t] w (RetV 0 false ⟨#[]⟩ noQ 1 w) := by
 have R1 := Lib.hid h1; clear h1
 have R2 := Lib.hid h2; clear h2
 have ML := Lib.hid (And.intro m1 (And.intro m2 (And.intro l1 (And.intro l2 (And.intro k1 k2))))); clear m1 m2 l1 l2 k1 k2
 have HR := Lib.hid hr; clear hr
 have KB := Lib.hid (fun W => kBas_is t W hb); clear hb
 obtain ⟨wa, hwa⟩ : ∃ wa, wa = (w.alloc (.cells #[.int .i64 k, .bool b, .string s, .bool g, .slice A xs.length c, .slice B ys.length d] 27)).alloc (.cells #[.int .i64 0, .bool false, .string ⟨#[]⟩, .bool false, .slice none 0 0, .slice none 0 0] 27) := ⟨_, rfl⟩
 obtain ⟨hbl, CX, RES⟩ := kal2 hwa
 replace R1 := hmR R1 hbl
 replace R2 := hmR R2 hbl
 have HW := Lib.hid hbl; clear hbl
 replace CX := Lib.hid CX
 replace RES := Lib.hid RES
 go_enter Tryz.func13, Tryz.ntmps13
 go_upto_region 1 with fail
 rw [← hwa]
 clear hwa
 obtain ⟨CX0, CX1, CX2, CX3, CX4, CX5⟩ := CX.out.cs6
 go_wp2_with fail
 refine (kRight_any k b s g A B c d xs ys _ R1.out R2.out ML.out.1 ML.out.2.1 ML.out.2.2.1 ML.out.2.2.2.1 ML.out.2.2.2.2.1 ML.out.2.2.2.2.2).mono ?_
 rintro e w1 ⟨rfl, hbl⟩
 replace R1 := hmR R1 hbl
 replace R2 := hmR R2 hbl
 replace CX := hmB CX hbl
 replace RES := hmB RES hbl
 replace HW := hmW HW hbl; clear hbl
 clear CX0 CX1 CX2 CX3 CX4 CX5
 obtain ⟨CX0, CX1, CX2, CX3, CX4, CX5⟩ := CX.out.cs6
 rw [HR.out]
 go_wp2_with fail
 refine (KB.out _).mono ?_
 rintro e wv ⟨rfl, hwv⟩
 obtain rfl := hwv.symm
 clear hwv
 obtain ⟨d0, d1, d2, d3, d4, d5⟩ := RES.out.cs6
 obtain ⟨f0, f1, f2, f3, f4, f5⟩ := RES.out.fz6
 go_wp2
 exact bodyPost_ret (results_row_tmp rfl _ _ (w.heap.size + 1) 27 _ (0, 0) _ _ rfl rfl (RES.out.put6 _ _ _ _ _ _) Tryz.underlying27 rfl (by kernel_rfl)) rfl ⟨_, _, rfl, (RdN.set6 RES.out rfl (RdN.none0 _) _ _ _ _ _ _), (RdN.set6 RES.out rfl (RdN.none0 _) _ _ _ _ _ _), (bel_set6 (g := w.heap.size + 1) HW.out (by omega) _ _ _ _ _ _)⟩
theorem kFitsV_of {k1 e : Int} {b1 : Bool} {s1 : ByteArray} {q : Q} (k : Int) (b g : Bool) (s : ByteArray) (A B : Option Addr) (c d : Nat) (xs ys : List Nat) (t : Int) (w : World) (h1 : RdL w A xs) (h2 : RdL w B ys) (m1 : Lim xs) (m2 : Lim ys) (l1 : xs.length ≤ 18) (l2 : ys.length ≤ 18) (j1 : xs.length ≤ c) (j2 : ys.length ≤ d) (hr : rightV k b s g xs ys = true) (hb : basB t = true) (hC : ∀ W, RdL W A xs → RdL W B ys → Calls Tryz.prog 29 #[.agg #[.int .i64 k, .bool b, .string s, .bool g, .slice A xs.length c, .slice B ys.length d], .int .i64 t] W (RetV k1 b1 s1 q e W)) :
 Calls Tryz.prog 13 #[.agg #[.int .i64 k, .bool b, .string s, .bool g, .slice A xs.length c, .slice B ys.length d], .int .i64 t] w (RetV k1 b1 s1 q e w) := by
 have R1 := Lib.hid h1; clear h1
 have R2 := Lib.hid h2; clear h2
 have ML := Lib.hid (And.intro m1 (And.intro m2 (And.intro l1 (And.intro l2 (And.intro j1 j2))))); clear m1 m2 l1 l2 j1 j2
 have HR := Lib.hid hr; clear hr
 have KB := Lib.hid (fun W => kBas_is t W hb); clear hb
 have HC := Lib.hid hC; clear hC
 obtain ⟨wa, hwa⟩ : ∃ wa, wa = (w.alloc (.cells #[.int .i64 k, .bool b, .string s, .bool g, .slice A xs.length c, .slice B ys.length d] 27)).alloc (.cells #[.int .i64 0, .bool false, .string ⟨#[]⟩, .bool false, .slice none 0 0, .slice none 0 0] 27) := ⟨_, rfl⟩
 obtain ⟨hbl, CX, RES⟩ := kal2 hwa
 replace R1 := hmR R1 hbl
 replace R2 := hmR R2 hbl
 have HW := Lib.hid hbl; clear hbl
 replace CX := Lib.hid CX
 replace RES := Lib.hid RES
 go_enter Tryz.func13, Tryz.ntmps13
 go_upto_region 1 with fail
 rw [← hwa]
 clear hwa
 obtain ⟨CX0, CX1, CX2, CX3, CX4, CX5⟩ := CX.out.cs6
 go_wp2_with fail
 refine (kRight_any k b s g A B c d xs ys _ R1.out R2.out ML.out.1 ML.out.2.1 ML.out.2.2.1 ML.out.2.2.2.1 ML.out.2.2.2.2.1 ML.out.2.2.2.2.2).mono ?_
 rintro e w1 ⟨rfl, hbl⟩
 replace R1 := hmR R1 hbl
 replace R2 := hmR R2 hbl
 replace CX := hmB CX hbl
 replace RES := hmB RES hbl
 replace HW := hmW HW hbl; clear hbl
 clear CX0 CX1 CX2 CX3 CX4 CX5
 obtain ⟨CX0, CX1, CX2, CX3, CX4, CX5⟩ := CX.out.cs6
 rw [HR.out]
 go_wp2_with fail
 refine (KB.out _).mono ?_
 rintro e wv ⟨rfl, hwv⟩
 obtain rfl := hwv.symm
 clear hwv
 go_wp2_with fail
 refine (HC.out _ R1.out R2.out).mono ?_
 rintro e w2 ⟨vx, vy, rfl, hx, hy, hbl⟩
 replace R1 := hmR R1 hbl
 replace R2 := hmR R2 hbl
 replace CX := hmB CX hbl
 replace RES := hmB RES hbl
 replace HW := hmW HW hbl; clear hbl
 clear CX0 CX1 CX2 CX3 CX4 CX5
 obtain ⟨CX0, CX1, CX2, CX3, CX4, CX5⟩ := CX.out.cs6
 obtain ⟨Ax, cx, rfl, hcx, hrx⟩ := hx.row
 obtain ⟨Ay, cy, rfl, hcy, hry⟩ := hy.row
 have HX := Lib.hid hx; have HY := Lib.hid hy; clear hx hy hcx hrx hcy hry
 obtain ⟨d0, d1, d2, d3, d4, d5⟩ := RES.out.cs6
 obtain ⟨f0, f1, f2, f3, f4, f5⟩ := RES.out.fz6
 go_wp2
 exact bodyPost_ret (results_row_tmp rfl _ _ (w.heap.size + 1) 27 _ (0, 0) _ _ rfl rfl (RES.out.put6 _ _ _ _ _ _) Tryz.underlying27 rfl (by kernel_rfl)) rfl ⟨_, _, rfl, (RdN.set6 RES.out rfl (HX.out) _ _ _ _ _ _), (RdN.set6 RES.out rfl (HY.out) _ _ _ _ _ _), (bel_set6 (g := w.heap.size + 1) HW.out (by omega) _ _ _ _ _ _)⟩
theorem kFits_1 (b : Bool) (s : ByteArray) (A B : Option Addr) (c d : Nat) (t : Int) (w : World) (hK : kindI t = 1) (hw : wholeB t = false) (h12 : ¬ t = 12) (h13 : ¬ t = 13) :
 Calls Tryz.prog 29 #[.agg #[.int .i64 1, .bool b, .string s, .bool false, .slice A 0 c, .slice B 0 d], .int .i64 t] w (RetV 1 b s noQ 0 w) := by
 have KK := Lib.hid (fun W => kKind_is t W hK); clear hK
 have KW := Lib.hid (fun W => kWhole_is t W hw); clear hw
 have n1 : (t == 12) = false := kd_ne h12
 have n2 : (t == 13) = false := kd_ne h13
 clear h12 h13
 obtain ⟨wa, hwa⟩ : ∃ wa, wa = (w.alloc (.cells #[.int .i64 1, .bool b, .string s, .bool false, .slice A 0 c, .slice B 0 d] 27)).alloc (.cells #[.int .i64 0, .bool false, .string ⟨#[]⟩, .bool false, .slice none 0 0, .slice none 0 0] 27) := ⟨_, rfl⟩
 obtain ⟨hbl, CX, RES⟩ := kal2 hwa
 have HW := Lib.hid hbl; clear hbl
 replace CX := Lib.hid CX
 replace RES := Lib.hid RES
 go_enter Tryz.func29, Tryz.ntmps29
 go_upto_region 1 with fail
 rw [← hwa]
 clear hwa
 obtain ⟨CX0, CX1, CX2, CX3, CX4, CX5⟩ := CX.out.cs6
 go_quiet (first | (go_at_call 65; exact Calls.quiet_of_same (KK.out _)))
 obtain ⟨wd, hwd⟩ : ∃ wd, wd = wa.drewN nq := ⟨_, rfl⟩
 have hbl : Below wa.heap.size wa wd := by rw [hwd]; exact bel_drewN (bel_refl _) _
 rw [← hwd]
 clear hwd
 replace CX := hmB CX hbl
 replace RES := hmB RES hbl
 replace HW := hmW HW hbl; clear hbl
 clear CX0 CX1 CX2 CX3 CX4 CX5
 obtain ⟨CX0, CX1, CX2, CX3, CX4, CX5⟩ := CX.out.cs6
 go_wp2_with fail
 refine (KW.out _).mono ?_
 rintro e wv ⟨rfl, hwv⟩
 obtain rfl := hwv.symm
 clear hwv
 obtain ⟨d0, d1, d2, d3, d4, d5⟩ := RES.out.cs6
 obtain ⟨f0, f1, f2, f3, f4, f5⟩ := RES.out.fz6
 go_wp2
 exact bodyPost_ret (results_row_tmp rfl _ _ (w.heap.size + 1) 27 _ (0, 0) _ _ rfl rfl (RES.out.put6 _ _ _ _ _ _) Tryz.underlying27 rfl (by kernel_rfl)) rfl ⟨_, _, rfl, (RdN.set6 RES.out rfl (@RdN.nil0 wd A c) _ _ _ _ _ _), (RdN.set6 RES.out rfl (@RdN.nil0 wd B d) _ _ _ _ _ _), (bel_set6 (g := w.heap.size + 1) HW.out (by omega) _ _ _ _ _ _)⟩
theorem kFits_2 (b : Bool) (s : ByteArray) (A B : Option Addr) (c d : Nat) (t : Int) (w : World) (hK : kindI t = 2) (hw : wholeB t = false) (h12 : ¬ t = 12) (h13 : ¬ t = 13) :
 Calls Tryz.prog 29 #[.agg #[.int .i64 2, .bool b, .string s, .bool false, .slice A 0 c, .slice B 0 d], .int .i64 t] w (RetV 2 b s noQ 0 w) := by
 have KK := Lib.hid (fun W => kKind_is t W hK); clear hK
 have KW := Lib.hid (fun W => kWhole_is t W hw); clear hw
 have n1 : (t == 12) = false := kd_ne h12
 have n2 : (t == 13) = false := kd_ne h13
 clear h12 h13
 obtain ⟨wa, hwa⟩ : ∃ wa, wa = (w.alloc (.cells #[.int .i64 2, .bool b, .string s, .bool false, .slice A 0 c, .slice B 0 d] 27)).alloc (.cells #[.int .i64 0, .bool false, .string ⟨#[]⟩, .bool false, .slice none 0 0, .slice none 0 0] 27) := ⟨_, rfl⟩
 obtain ⟨hbl, CX, RES⟩ := kal2 hwa
 have HW := Lib.hid hbl; clear hbl
 replace CX := Lib.hid CX
 replace RES := Lib.hid RES
 go_enter Tryz.func29, Tryz.ntmps29
 go_upto_region 1 with fail
 rw [← hwa]
 clear hwa
 obtain ⟨CX0, CX1, CX2, CX3, CX4, CX5⟩ := CX.out.cs6
 go_quiet (first | (go_at_call 65; exact Calls.quiet_of_same (KK.out _)))
 obtain ⟨wd, hwd⟩ : ∃ wd, wd = wa.drewN nq := ⟨_, rfl⟩
 have hbl : Below wa.heap.size wa wd := by rw [hwd]; exact bel_drewN (bel_refl _) _
 rw [← hwd]
 clear hwd
 replace CX := hmB CX hbl
 replace RES := hmB RES hbl
 replace HW := hmW HW hbl; clear hbl
 clear CX0 CX1 CX2 CX3 CX4 CX5
 obtain ⟨CX0, CX1, CX2, CX3, CX4, CX5⟩ := CX.out.cs6
 go_wp2_with fail
 refine (KW.out _).mono ?_
 rintro e wv ⟨rfl, hwv⟩
 obtain rfl := hwv.symm
 clear hwv
 obtain ⟨d0, d1, d2, d3, d4, d5⟩ := RES.out.cs6
 obtain ⟨f0, f1, f2, f3, f4, f5⟩ := RES.out.fz6
 go_wp2
 exact bodyPost_ret (results_row_tmp rfl _ _ (w.heap.size + 1) 27 _ (0, 0) _ _ rfl rfl (RES.out.put6 _ _ _ _ _ _) Tryz.underlying27 rfl (by kernel_rfl)) rfl ⟨_, _, rfl, (RdN.set6 RES.out rfl (@RdN.nil0 wd A c) _ _ _ _ _ _), (RdN.set6 RES.out rfl (@RdN.nil0 wd B d) _ _ _ _ _ _), (bel_set6 (g := w.heap.size + 1) HW.out (by omega) _ _ _ _ _ _)⟩
theorem kMinus_pos (q : Q) (A B : Option Addr) (c d : Nat) (w : World) (h : RdL w A (limbs q.n)) (h' : RdL w B (limbs q.d)) (hc : (limbs q.n).length ≤ c) (hc' : (limbs q.d).length ≤ d) (hn : q.n < Top) (hd : q.d < Top) (hn0 : ¬ q.n = 0) :
 Calls Tryz.prog 46 #[.agg #[.bool q.s, .slice A (limbs q.n).length c, .slice B (limbs q.d).length d]] w (RetQv ⟨!q.s, q.n, q.d⟩ w) := by
 have RA := Lib.hid h; clear h
 have RB := Lib.hid h'; clear h'
 have LA := Lib.hid (And.intro hn hc); clear hn hc
 have LB := Lib.hid (And.intro hd hc'); clear hd hc'
 have hl0 : (0 : Int) < ((limbs q.n).length : Int) := by have := limbs_pos15 hn0; omega
 clear hn0
 obtain ⟨wa, hwa⟩ : ∃ wa, wa = (w.alloc (.cells #[.bool q.s, .slice A (limbs q.n).length c, .slice B (limbs q.d).length d] 25)).alloc (.cells #[.bool false, .slice none 0 0, .slice none 0 0] 25) := ⟨_, rfl⟩
 obtain ⟨hbl, CX, RES⟩ := kal2 hwa
 replace RA := hmR RA hbl
 replace RB := hmR RB hbl
 have HW := Lib.hid hbl; clear hbl
 replace CX := Lib.hid CX
 replace RES := Lib.hid RES
 go_enter Tryz.func46, Tryz.ntmps46
 go_upto_region 1 with fail
 rw [← hwa]
 clear hwa
 obtain ⟨CX0, CX1, CX2⟩ := CX.out.cs3
 obtain ⟨y0, y1, y2⟩ := CX.out.fz3
 go_upto_region 3 with fail
 clear y0 y1 y2
 obtain ⟨wk, hwk⟩ : ∃ wk, wk = wa.setCell ⟨w.heap.size, 0, none⟩ (.bool (!q.s)) := ⟨_, rfl⟩
 rw [← hwk]
 have RA_ := Lib.hid (show RdL wk _ _ by rw [hwk]; exact RdL.set1 CX.out RA.out (.bool (!q.s)))
 have RB_ := Lib.hid (show RdL wk _ _ by rw [hwk]; exact RdL.set1 CX.out RB.out (.bool (!q.s)))
 have CX_ := Lib.hid (show Blk wk w.heap.size 25 #[.bool (!q.s), .slice A (limbs q.n).length c, .slice B (limbs q.d).length d] by rw [hwk]; exact CX.out.put 0 _)
 have RES_ := Lib.hid (show Blk wk (w.heap.size + 1) 25 #[.bool false, .slice none 0 0, .slice none 0 0] by rw [hwk]; exact RES.out.far (p := ⟨w.heap.size, 0, none⟩) (by simp) _)
 have HW_ := Lib.hid (show Below w.heap.size w wk by rw [hwk]; exact bel_set HW.out (by simp) _)
 replace RA := RA_; clear RA_
 replace RB := RB_; clear RB_
 replace CX := CX_; clear CX_
 replace RES := RES_; clear RES_
 replace HW := HW_; clear HW_
 clear hwk
 clear CX0 CX1 CX2
 obtain ⟨CX0, CX1, CX2⟩ := CX.out.cs3
 obtain ⟨d0, d1, d2⟩ := RES.out.cs3
 obtain ⟨f0, f1, f2⟩ := RES.out.fz3
 go_wp2
 exact bodyPost_ret (results_cell_row rfl _ _ (w.heap.size + 1) 25 _ (0, 0) _ rfl (RES.out.put3 _ _ _) Tryz.underlying25 rfl (by kernel_rfl)) rfl ⟨_, _, rfl, (RdN.set3 RES.out (⟨A, c, rfl, LA.out.2, RA.out⟩) _ _ _), (RdN.set3 RES.out (⟨B, d, rfl, LB.out.2, RB.out⟩) _ _ _), (bel_set3 (g := w.heap.size + 1) HW.out (by omega) _ _ _)⟩
theorem kMinus_zero (q : Q) (A B : Option Addr) (c d : Nat) (w : World) (h : RdL w A (limbs q.n)) (h' : RdL w B (limbs q.d)) (hc : (limbs q.n).length ≤ c) (hc' : (limbs q.d).length ≤ d) (hn : q.n < Top) (hd : q.d < Top) (hn0 : q.n = 0) :
 Calls Tryz.prog 46 #[.agg #[.bool q.s, .slice A (limbs q.n).length c, .slice B (limbs q.d).length d]] w (RetQv ⟨q.s, q.n, q.d⟩ w) := by
 have RA := Lib.hid h; clear h
 have RB := Lib.hid h'; clear h'
 have LA := Lib.hid (And.intro hn hc); clear hn hc
 have LB := Lib.hid (And.intro hd hc'); clear hd hc'
 have hl0 : ¬ (0 : Int) < ((limbs q.n).length : Int) := by rw [hn0]; decide
 clear hn0
 obtain ⟨wa, hwa⟩ : ∃ wa, wa = (w.alloc (.cells #[.bool q.s, .slice A (limbs q.n).length c, .slice B (limbs q.d).length d] 25)).alloc (.cells #[.bool false, .slice none 0 0, .slice none 0 0] 25) := ⟨_, rfl⟩
 obtain ⟨hbl, CX, RES⟩ := kal2 hwa
 replace RA := hmR RA hbl
 replace RB := hmR RB hbl
 have HW := Lib.hid hbl; clear hbl
 replace CX := Lib.hid CX
 replace RES := Lib.hid RES
 go_enter Tryz.func46, Tryz.ntmps46
 go_upto_region 1 with fail
 rw [← hwa]
 clear hwa
 obtain ⟨CX0, CX1, CX2⟩ := CX.out.cs3
 obtain ⟨d0, d1, d2⟩ := RES.out.cs3
 obtain ⟨f0, f1, f2⟩ := RES.out.fz3
 go_wp2
 exact bodyPost_ret (results_cell_row rfl _ _ (w.heap.size + 1) 25 _ (0, 0) _ rfl (RES.out.put3 _ _ _) Tryz.underlying25 rfl (by kernel_rfl)) rfl ⟨_, _, rfl, (RdN.set3 RES.out (⟨A, c, rfl, LA.out.2, RA.out⟩) _ _ _), (RdN.set3 RES.out (⟨B, d, rfl, LB.out.2, RB.out⟩) _ _ _), (bel_set3 (g := w.heap.size + 1) HW.out (by omega) _ _ _)⟩
end
end Go.Proofs.YtmbbdjpnecjleaaGreat
namespace Go.Proofs.YtmbbdjpnecjleaaGreat
section
set_option maxRecDepth 100000
set_option maxHeartbeats 1000000
open Go.RowKit

def VQE (q : Q) (e : Int) : World → Value → Prop := fun w v => ∃ x y, v = .tuple #[.agg #[.bool q.s, x, y], .int .i64 e] ∧ RdN w x q.n ∧ RdN w y q.d
theorem VQE.lift (q : Q) (e : Int) : LiftP (VQE q e) := fun _ _ _ ⟨x, y, h, hx, hy⟩ hb => ⟨x, y, h, hx.below hb, hy.below hb⟩
theorem one_top15 : 1 < Top := by decide +kernel
theorem red_one15 (x : Nat) : redQ false x 1 = ⟨false, x, 1⟩ := by
 unfold redQ
 split
 · subst x; rfl
 · rw [Nat.gcd_one_right, Nat.div_one]
theorem kPower_is (n : Nat) (w : World) (hn : n ≤ 64) : Calls Tryz.prog 84 #[.int .i64 (n : Int)] w (RetQv ⟨false, 2 ^ n, 1⟩ w) := by
 obtain ⟨X, hX⟩ : ∃ X, 2 ^ n = X := ⟨_, rfl⟩
 have HX := Lib.hid (And.intro hX (show X < Top by rw [← hX]; exact pow_small hn)); clear hX
 rw [HX.out.1]
 obtain ⟨wa, hwa⟩ : ∃ wa, wa = w.alloc (.cells #[.bool false, .slice none 0 0, .slice none 0 0] 25) := ⟨_, rfl⟩
 obtain ⟨hbl, RES⟩ := kal1 hwa
 have HW := Lib.hid hbl; clear hbl
 replace RES := Lib.hid RES
 go_enter Tryz.func84, Tryz.ntmps84
 go_upto_region 1 with fail
 rw [← hwa]
 clear hwa
 go_wp2_with fail
 refine (kOne_any _).mono ?_
 rintro e w1 ⟨vo, rfl, hno, hbl⟩
 replace RES := hmB RES hbl
 replace HW := hmW HW hbl; clear hbl
 have HNo := Lib.hid hno; clear hno
 obtain ⟨Ao, co, rfl, hco, hro⟩ := HNo.out.row
 have Ro := Lib.hid hro; have HCo := Lib.hid hco; clear hro hco
 go_wp2_with fail
 refine (shift_fit Ao co 1 n _ Ro.out (small_top (by decide)) (X := X) (by rw [Nat.one_mul]; exact HX.out.1) HX.out.2).mono ?_
 rintro e w2 ⟨vp, rfl, hnp, hbl⟩
 replace Ro := hmR Ro hbl
 replace HNo := hmN HNo hbl
 replace RES := hmB RES hbl
 replace HW := hmW HW hbl; clear hbl
 have HNp := Lib.hid hnp; clear hnp
 obtain ⟨Ap, cp, rfl, hcp, hrp⟩ := HNp.out.row
 have Rp := Lib.hid hrp; have HCp := Lib.hid hcp; clear hrp hcp
 go_wp2_with fail
 refine (kOne_any _).mono ?_
 rintro e w3 ⟨vu, rfl, hnu, hbl⟩
 replace Ro := hmR Ro hbl
 replace HNo := hmN HNo hbl
 replace Rp := hmR Rp hbl
 replace HNp := hmN HNp hbl
 replace RES := hmB RES hbl
 replace HW := hmW HW hbl; clear hbl
 have HNu := Lib.hid hnu; clear hnu
 obtain ⟨Au, cu, rfl, hcu, hru⟩ := HNu.out.row
 have Ru := Lib.hid hru; have HCu := Lib.hid hcu; clear hru hcu
 go_wp2_with fail
 refine (make_ok (q := ⟨false, X, 1⟩) false Ap Au cp cu X 1 _ Rp.out Ru.out HCp.out HCu.out HX.out.2 one_top15 (by decide) (red_one15 X)).mono ?_
 rintro e w4 ⟨vx, vy, rfl, hnx, hny, hbl⟩
 replace Ro := hmR Ro hbl
 replace HNo := hmN HNo hbl
 replace Rp := hmR Rp hbl
 replace HNp := hmN HNp hbl
 replace Ru := hmR Ru hbl
 replace HNu := hmN HNu hbl
 replace RES := hmB RES hbl
 replace HW := hmW HW hbl; clear hbl
 have HNx := Lib.hid hnx; clear hnx
 obtain ⟨Ax, cx, rfl, hcx, hrx⟩ := HNx.out.row
 have Rx := Lib.hid hrx; have HCx := Lib.hid hcx; clear hrx hcx
 have HNy := Lib.hid hny; clear hny
 obtain ⟨Ay, cy, rfl, hcy, hry⟩ := HNy.out.row
 have Ry := Lib.hid hry; have HCy := Lib.hid hcy; clear hry hcy
 go_upto_region 3 with fail
 obtain ⟨wb, hwb⟩ : ∃ wb, wb = w4.alloc (.cells #[.bool false, .slice Ax (limbs X).length cx, .slice Ay (limbs 1).length cy] 25) := ⟨_, rfl⟩
 rw [← hwb]
 obtain ⟨hbl, CR⟩ := sal1 hwb
 clear hwb
 replace Ro := hmR Ro hbl
 replace HNo := hmN HNo hbl
 replace Rp := hmR Rp hbl
 replace HNp := hmN HNp hbl
 replace Ru := hmR Ru hbl
 replace HNu := hmN HNu hbl
 replace Rx := hmR Rx hbl
 replace HNx := hmN HNx hbl
 replace Ry := hmR Ry hbl
 replace HNy := hmN HNy hbl
 replace RES := hmB RES hbl
 replace HW := hmW HW hbl; clear hbl
 obtain ⟨CR0, CR1, CR2⟩ := CR.out.cs3
 obtain ⟨d0, d1, d2⟩ := RES.out.cs3
 obtain ⟨f0, f1, f2⟩ := RES.out.fz3
 go_wp2
 exact bodyPost_ret (results_cell_row rfl _ _ (w.heap.size) 25 _ (0, 0) _ rfl (RES.out.put3 _ _ _) Tryz.underlying25 rfl (by kernel_rfl)) rfl ⟨_, _, rfl, (RdN.set3 RES.out (HNx.out) _ _ _), (RdN.set3 RES.out (HNy.out) _ _ _), (bel_set3 HW.out (Nat.le_refl _) _ _ _)⟩
theorem kNot_u {p r : Q} {e1 e : Int} (t : Int) (N : Nat) (q : Q) (A B : Option Addr) (c d : Nat) (w : World) (h : RdL w A (limbs q.n)) (h' : RdL w B (limbs q.d)) (hc : (limbs q.n).length ≤ c) (hc' : (limbs q.d).length ≤ d) (hn : q.n < Top) (hd : q.d < Top) (hu : unsB t = true) (hN : bitsN t = N) (h64 : N ≤ 64) (hS1 : ∀ W A B A' B' c d c' d', RdL W A (limbs (⟨false, 2 ^ N, 1⟩ : Q).n) → RdL W B (limbs (⟨false, 2 ^ N, 1⟩ : Q).d) → RdL W A' (limbs (⟨false, 2 ^ 0, 1⟩ : Q).n) → RdL W B' (limbs (⟨false, 2 ^ 0, 1⟩ : Q).d) → (limbs (⟨false, 2 ^ N, 1⟩ : Q).n).length ≤ c → (limbs (⟨false, 2 ^ N, 1⟩ : Q).d).length ≤ d → (limbs (⟨false, 2 ^ 0, 1⟩ : Q).n).length ≤ c' → (limbs (⟨false, 2 ^ 0, 1⟩ : Q).d).length ≤ d' → Calls Tryz.prog 55 #[.agg #[.bool (⟨false, 2 ^ N, 1⟩ : Q).s, .slice A (limbs (⟨false, 2 ^ N, 1⟩ : Q).n).length c, .slice B (limbs (⟨false, 2 ^ N, 1⟩ : Q).d).length d], .agg #[.bool (⟨false, 2 ^ 0, 1⟩ : Q).s, .slice A' (limbs (⟨false, 2 ^ 0, 1⟩ : Q).n).length c', .slice B' (limbs (⟨false, 2 ^ 0, 1⟩ : Q).d).length d']] W (RetQE p e1 W)) (hS2 : ∀ W A B A' B' c d c' d', RdL W A (limbs p.n) → RdL W B (limbs p.d) → RdL W A' (limbs q.n) → RdL W B' (limbs q.d) → (limbs p.n).length ≤ c → (limbs p.d).length ≤ d → (limbs q.n).length ≤ c' → (limbs q.d).length ≤ d' → Calls Tryz.prog 55 #[.agg #[.bool p.s, .slice A (limbs p.n).length c, .slice B (limbs p.d).length d], .agg #[.bool q.s, .slice A' (limbs q.n).length c', .slice B' (limbs q.d).length d']] W (RetQE r e W)) :
 Calls Tryz.prog 47 #[.agg #[.bool q.s, .slice A (limbs q.n).length c, .slice B (limbs q.d).length d], .int .i64 t] w (RetQE r e w) := by
 have RA := Lib.hid h; clear h
 have RB := Lib.hid h'; clear h'
 have LA := Lib.hid (And.intro hn hc); clear hn hc
 have LB := Lib.hid (And.intro hd hc'); clear hd hc'
 have KU := Lib.hid (fun W => kUns_is t W hu); clear hu
 have KB := Lib.hid (fun W => kBits_is t W hN); clear hN
 have H64 := Lib.hid h64; clear h64
 have HS1 := Lib.hid hS1; clear hS1
 have HS2 := Lib.hid hS2; clear hS2
 obtain ⟨wa, hwa⟩ : ∃ wa, wa = (w.alloc (.cells #[.bool q.s, .slice A (limbs q.n).length c, .slice B (limbs q.d).length d] 25)).alloc (.cells #[.bool false, .slice none 0 0, .slice none 0 0] 25) := ⟨_, rfl⟩
 obtain ⟨hbl, CX, RES⟩ := kal2 hwa
 replace RA := hmR RA hbl
 replace RB := hmR RB hbl
 have HW := Lib.hid hbl; clear hbl
 replace CX := Lib.hid CX
 replace RES := Lib.hid RES
 go_enter Tryz.func47, Tryz.ntmps47
 go_upto_region 1 with fail
 rw [← hwa]
 clear hwa
 obtain ⟨CX0, CX1, CX2⟩ := CX.out.cs3
 go_wp2_with fail
 refine (KU.out _).mono ?_
 rintro e wv ⟨rfl, hwv⟩
 obtain rfl := hwv.symm
 clear hwv
 go_wp2_with fail
 refine (KB.out _).mono ?_
 rintro e w1 ⟨rfl, hbl⟩
 replace RA := hmR RA hbl
 replace RB := hmR RB hbl
 replace CX := hmB CX hbl
 replace RES := hmB RES hbl
 replace HW := hmW HW hbl; clear hbl
 clear CX0 CX1 CX2
 obtain ⟨CX0, CX1, CX2⟩ := CX.out.cs3
 go_wp2_with fail
 refine (kPower_is N _ H64.out).mono ?_
 rintro e w2 ⟨va, vb, rfl, hna, hnb, hbl⟩
 replace RA := hmR RA hbl
 replace RB := hmR RB hbl
 replace CX := hmB CX hbl
 replace RES := hmB RES hbl
 replace HW := hmW HW hbl; clear hbl
 clear CX0 CX1 CX2
 obtain ⟨CX0, CX1, CX2⟩ := CX.out.cs3
 have HNa := Lib.hid hna; clear hna
 obtain ⟨Aa, ca, rfl, hca, hra⟩ := HNa.out.row
 have Ra := Lib.hid hra; have HCa := Lib.hid hca; clear hra hca
 have HNb := Lib.hid hnb; clear hnb
 obtain ⟨Ab, cb, rfl, hcb, hrb⟩ := HNb.out.row
 have Rb := Lib.hid hrb; have HCb := Lib.hid hcb; clear hrb hcb
 go_wp2_with fail
 refine (kPower_is 0 _ (by decide)).mono ?_
 rintro e w3 ⟨ve, vf, rfl, hne, hnf, hbl⟩
 replace RA := hmR RA hbl
 replace RB := hmR RB hbl
 replace Ra := hmR Ra hbl
 replace HNa := hmN HNa hbl
 replace Rb := hmR Rb hbl
 replace HNb := hmN HNb hbl
 replace CX := hmB CX hbl
 replace RES := hmB RES hbl
 replace HW := hmW HW hbl; clear hbl
 clear CX0 CX1 CX2
 obtain ⟨CX0, CX1, CX2⟩ := CX.out.cs3
 have HNe := Lib.hid hne; clear hne
 obtain ⟨Ae, ce, rfl, hce, hre⟩ := HNe.out.row
 have Re := Lib.hid hre; have HCe := Lib.hid hce; clear hre hce
 have HNf := Lib.hid hnf; clear hnf
 obtain ⟨Af, cf, rfl, hcf, hrf⟩ := HNf.out.row
 have Rf := Lib.hid hrf; have HCf := Lib.hid hcf; clear hrf hcf
 go_wp2_with fail
 refine (HS1.out _ Aa Ab Ae Af ca cb ce cf Ra.out Rb.out Re.out Rf.out HCa.out HCb.out HCe.out HCf.out).mono ?_
 rintro e w4 ⟨vx, vy, rfl, hnx, hny, hbl⟩
 replace RA := hmR RA hbl
 replace RB := hmR RB hbl
 replace Ra := hmR Ra hbl
 replace HNa := hmN HNa hbl
 replace Rb := hmR Rb hbl
 replace HNb := hmN HNb hbl
 replace Re := hmR Re hbl
 replace HNe := hmN HNe hbl
 replace Rf := hmR Rf hbl
 replace HNf := hmN HNf hbl
 replace CX := hmB CX hbl
 replace RES := hmB RES hbl
 replace HW := hmW HW hbl; clear hbl
 clear CX0 CX1 CX2
 obtain ⟨CX0, CX1, CX2⟩ := CX.out.cs3
 have HNx := Lib.hid hnx; clear hnx
 obtain ⟨Ax, cx, rfl, hcx, hrx⟩ := HNx.out.row
 have Rx := Lib.hid hrx; have HCx := Lib.hid hcx; clear hrx hcx
 have HNy := Lib.hid hny; clear hny
 obtain ⟨Ay, cy, rfl, hcy, hry⟩ := HNy.out.row
 have Ry := Lib.hid hry; have HCy := Lib.hid hcy; clear hry hcy
 go_upto_region 3 with fail
 obtain ⟨wp_, hwp_⟩ : ∃ wp_, wp_ = w4.alloc (.cells #[.bool p.s, .slice Ax (limbs p.n).length cx, .slice Ay (limbs p.d).length cy] 25) := ⟨_, rfl⟩
 rw [← hwp_]
 obtain ⟨hbl, CP⟩ := sal1 hwp_
 clear hwp_
 replace RA := hmR RA hbl
 replace RB := hmR RB hbl
 replace Ra := hmR Ra hbl
 replace HNa := hmN HNa hbl
 replace Rb := hmR Rb hbl
 replace HNb := hmN HNb hbl
 replace Re := hmR Re hbl
 replace HNe := hmN HNe hbl
 replace Rf := hmR Rf hbl
 replace HNf := hmN HNf hbl
 replace Rx := hmR Rx hbl
 replace HNx := hmN HNx hbl
 replace Ry := hmR Ry hbl
 replace HNy := hmN HNy hbl
 replace CX := hmB CX hbl
 replace RES := hmB RES hbl
 replace HW := hmW HW hbl; clear hbl
 clear CX0 CX1 CX2
 obtain ⟨CX0, CX1, CX2⟩ := CX.out.cs3
 obtain ⟨CP0, CP1, CP2⟩ := CP.out.cs3
 go_wp2_with fail
 refine (HS2.out _ Ax Ay A B cx cy c d Rx.out Ry.out RA.out RB.out HCx.out HCy.out LA.out.2 LB.out.2).mono ?_
 rintro e w5 ⟨vz, vu, rfl, hnz, hnu, hbl⟩
 replace RA := hmR RA hbl
 replace RB := hmR RB hbl
 replace Ra := hmR Ra hbl
 replace HNa := hmN HNa hbl
 replace Rb := hmR Rb hbl
 replace HNb := hmN HNb hbl
 replace Re := hmR Re hbl
 replace HNe := hmN HNe hbl
 replace Rf := hmR Rf hbl
 replace HNf := hmN HNf hbl
 replace Rx := hmR Rx hbl
 replace HNx := hmN HNx hbl
 replace Ry := hmR Ry hbl
 replace HNy := hmN HNy hbl
 replace CX := hmB CX hbl
 replace RES := hmB RES hbl
 replace CP := hmB CP hbl
 replace HW := hmW HW hbl; clear hbl
 clear CX0 CX1 CX2 CP0 CP1 CP2
 obtain ⟨CX0, CX1, CX2⟩ := CX.out.cs3
 obtain ⟨CP0, CP1, CP2⟩ := CP.out.cs3
 have HNz := Lib.hid hnz; clear hnz
 obtain ⟨Az, cz, rfl, hcz, hrz⟩ := HNz.out.row
 have Rz := Lib.hid hrz; have HCz := Lib.hid hcz; clear hrz hcz
 have HNu := Lib.hid hnu; clear hnu
 obtain ⟨Au, cu, rfl, hcu, hru⟩ := HNu.out.row
 have Ru := Lib.hid hru; have HCu := Lib.hid hcu; clear hru hcu
 obtain ⟨d0, d1, d2⟩ := RES.out.cs3
 obtain ⟨f0, f1, f2⟩ := RES.out.fz3
 go_wp2
 exact bodyPost_ret (results_row_tmp rfl _ _ (w.heap.size + 1) 25 _ (0, 0) _ _ rfl rfl (RES.out.put3 _ _ _) Tryz.underlying25 rfl (by kernel_rfl)) rfl ⟨_, _, rfl, (RdN.set3 RES.out (HNz.out) _ _ _), (RdN.set3 RES.out (HNu.out) _ _ _), (bel_set3 (g := w.heap.size + 1) HW.out (by omega) _ _ _)⟩
theorem kNot_s {r : Q} {e : Int} (t : Int) (q : Q) (A B : Option Addr) (c d : Nat) (w : World) (h : RdL w A (limbs q.n)) (h' : RdL w B (limbs q.d)) (hc : (limbs q.n).length ≤ c) (hc' : (limbs q.d).length ≤ d) (hn : q.n < Top) (hd : q.d < Top) (hu : unsB t = false) (hS : ∀ W A B A' B' c d c' d', RdL W A (limbs (⟨true, 2 ^ 0, 1⟩ : Q).n) → RdL W B (limbs (⟨true, 2 ^ 0, 1⟩ : Q).d) → RdL W A' (limbs q.n) → RdL W B' (limbs q.d) → (limbs (⟨true, 2 ^ 0, 1⟩ : Q).n).length ≤ c → (limbs (⟨true, 2 ^ 0, 1⟩ : Q).d).length ≤ d → (limbs q.n).length ≤ c' → (limbs q.d).length ≤ d' → Calls Tryz.prog 55 #[.agg #[.bool (⟨true, 2 ^ 0, 1⟩ : Q).s, .slice A (limbs (⟨true, 2 ^ 0, 1⟩ : Q).n).length c, .slice B (limbs (⟨true, 2 ^ 0, 1⟩ : Q).d).length d], .agg #[.bool q.s, .slice A' (limbs q.n).length c', .slice B' (limbs q.d).length d']] W (RetQE r e W)) :
 Calls Tryz.prog 47 #[.agg #[.bool q.s, .slice A (limbs q.n).length c, .slice B (limbs q.d).length d], .int .i64 t] w (RetQE r e w) := by
 have RA := Lib.hid h; clear h
 have RB := Lib.hid h'; clear h'
 have LA := Lib.hid (And.intro hn hc); clear hn hc
 have LB := Lib.hid (And.intro hd hc'); clear hd hc'
 have KU := Lib.hid (fun W => kUns_is t W hu); clear hu
 have HS := Lib.hid hS; clear hS
 obtain ⟨wa, hwa⟩ : ∃ wa, wa = (w.alloc (.cells #[.bool q.s, .slice A (limbs q.n).length c, .slice B (limbs q.d).length d] 25)).alloc (.cells #[.bool false, .slice none 0 0, .slice none 0 0] 25) := ⟨_, rfl⟩
 obtain ⟨hbl, CX, RES⟩ := kal2 hwa
 replace RA := hmR RA hbl
 replace RB := hmR RB hbl
 have HW := Lib.hid hbl; clear hbl
 replace CX := Lib.hid CX
 replace RES := Lib.hid RES
 go_enter Tryz.func47, Tryz.ntmps47
 go_upto_region 1 with fail
 rw [← hwa]
 clear hwa
 obtain ⟨CX0, CX1, CX2⟩ := CX.out.cs3
 go_wp2_with fail
 refine (KU.out _).mono ?_
 rintro e wv ⟨rfl, hwv⟩
 obtain rfl := hwv.symm
 clear hwv
 go_upto_region 4 with fail
 refine wp_region_typed 6 (TOf [VQ ⟨false, 2 ^ 0, 1⟩,
  VQ ⟨true, 2 ^ 0, 1⟩,
  VIs (.agg #[.bool q.s, .slice A (limbs q.n).length c, .slice B (limbs q.d).length d]),
  VQE r e,
  VQ r,
  VIs (.int .i64 e)]) (by kernel_rfl) (by kernel_rfl) (by kernel_rfl) (LiftAll.at_ (.cons (VQ.lift _) (.cons (VQ.lift _) (.cons (VIs.lift _) (.cons (VQE.lift _ _) (.cons (VQ.lift _) (.cons (VIs.lift _) .nil))))))) (steps_all (steps_cons ?_ (steps_cons ?_ (steps_cons ?_ (steps_cons ?_ (steps_cons ?_ (steps_cons ?_ steps_zero))))))) ?fin
 · intro a0 w9 K9 hF hB hK hC
   have HB9 := Lib.hid hB
   clear hF hB hK
   go_simp
   refine (kPower_is 0 _ (by decide)).mono ?_
   rintro e w7 ⟨x7, y7, rfl, hx7, hy7, hbl⟩
   exact hC _ _ hbl fun _ _ => ⟨_, _, rfl, hx7, hy7⟩
 · intro a0 w9 K9 hF hB hK hC
   obtain ⟨v23, e23, z23⟩ := dep hK 0 (g := .data) (j := 0) (k := 23) rfl rfl rfl
   have z23 : ∃ x y, v23 = .agg #[.bool false, x, y] ∧ RdN w9 x (2 ^ 0) ∧ RdN w9 y 1 := z23
   obtain ⟨x23, y23, rfl, hx23, hy23⟩ := z23
   have HB9 := Lib.hid hB
   clear hF hB hK
   obtain ⟨A1, c1, rfl, hcA1, hrA1⟩ := hx23.row
   obtain ⟨B1, d1, rfl, hcB1, hrB1⟩ := hy23.row
   go_simp
   refine (kMinus_pos ⟨false, 2 ^ 0, 1⟩ A1 B1 c1 d1 _ hrA1 hrB1 hcA1 hcB1 (small_top (by decide)) (small_top (by decide)) (by decide)).mono ?_
   rintro e7 w7 ⟨x7, y7, rfl, hx7, hy7, hbl⟩
   exact hC _ _ hbl fun _ _ => ⟨_, _, rfl, hx7, hy7⟩
 · intro a0 w9 K9 hF hB hK hC
   have b2 := hF.base (k := 2) (by kernel_rfl) rfl
   have x90 := (CX.out.below hB CX.out.lt).c0
   have x91 := (CX.out.below hB CX.out.lt).c1
   have x92 := (CX.out.below hB CX.out.lt).c2
   clear hF hB hK
   go_simp
   exact hC _ _ (bR _) fun _ _ => rfl
 · intro a0 w9 K9 hF hB hK hC
   obtain ⟨v24, e24, z24⟩ := dep hK 0 (g := .data) (j := 1) (k := 24) rfl rfl rfl
   have z24 : ∃ x y, v24 = .agg #[.bool true, x, y] ∧ RdN w9 x (2 ^ 0) ∧ RdN w9 y 1 := z24
   obtain ⟨x24, y24, rfl, hx24, hy24⟩ := z24
   have e25 := depV hK 1 rfl rfl rfl rfl
   have HB9 := Lib.hid hB
   clear hF hB hK
   obtain ⟨A1, c1, rfl, hcA1, hrA1⟩ := hx24.row
   obtain ⟨B1, d1, rfl, hcB1, hrB1⟩ := hy24.row
   go_simp
   refine (HS.out _ A1 B1 A B c1 d1 c d hrA1 hrB1 (RA.out.below HB9.out) (RB.out.below HB9.out) hcA1 hcB1 LA.out.2 LB.out.2).mono ?_
   rintro e7 w7 ⟨x7, y7, rfl, hx7, hy7, hbl⟩
   exact hC _ _ hbl fun _ _ => ⟨_, _, rfl, hx7, hy7⟩
 · intro a0 w9 K9 hF hB hK hC
   obtain ⟨v26, e26, z26⟩ := dep hK 0 (g := .data) (j := 3) (k := 26) rfl rfl rfl
   have z26 : ∃ x y, v26 = .tuple #[.agg #[.bool r.s, x, y], .int .i64 e] ∧ RdN w9 x r.n ∧ RdN w9 y r.d := z26
   obtain ⟨x26, y26, rfl, hx26, hy26⟩ := z26
   have HB9 := Lib.hid hB
   clear hF hB hK
   go_simp
   exact hC _ _ (bel_refl _) fun _ _ => ⟨_, _, rfl, hx26, hy26⟩
 · intro a0 w9 K9 hF hB hK hC
   obtain ⟨v26, e26, z26⟩ := dep hK 0 (g := .data) (j := 3) (k := 26) rfl rfl rfl
   have z26 : ∃ x y, v26 = .tuple #[.agg #[.bool r.s, x, y], .int .i64 e] ∧ RdN w9 x r.n ∧ RdN w9 y r.d := z26
   obtain ⟨x26, y26, rfl, hx26, hy26⟩ := z26
   have HB9 := Lib.hid hB
   clear hF hB hK
   go_simp
   exact hC _ _ (bR _) fun _ _ => rfl
 case fin =>
  intro a0 w9 hF hB hK
  have b1 := hF.base (k := 1) (by kernel_rfl) rfl
  have b2 := hF.base (k := 2) (by kernel_rfl) rfl
  have b4 := hF.base (k := 4) (by kernel_rfl) rfl
  have hsz := hF.size
  have hdf := hF.defers
  clear hF
  obtain ⟨v27, e27, z27⟩ := known hK 4 (k := 27) (by decide) rfl
  have z27 : ∃ x y, v27 = .agg #[.bool r.s, x, y] ∧ RdN w9 x r.n ∧ RdN w9 y r.d := z27
  obtain ⟨x27, y27, rfl, hx27, hy27⟩ := z27
  obtain ⟨v28, e28, z28⟩ := known hK 5 (k := 28) (by decide) rfl
  have z28 : v28 = .int .i64 e := z28
  subst z28
  clear hK
  obtain ⟨⟨l0⟩, df⟩ := a0
  have hs0 : l0.length = 29 := hsz
  clear hsz
  replace hdf : df = _ := hdf
  subst hdf
  obtain ⟨u, rfl⟩ := lits_29 hs0
  clear hs0
  generalize hAr : (Array.mk [u 0, u 1, u 2, u 3, u 4, u 5, u 6, u 7, u 8, u 9, u 10, u 11, u 12, u 13, u 14, u 15, u 16, u 17, u 18, u 19, u 20, u 21, u 22, u 23, u 24, u 25, u 26, u 27, u 28] : Array Value) = ar
  obtain rfl : ar = #[u 0, u 1, u 2, u 3, u 4, u 5, u 6, u 7, u 8, u 9, u 10, u 11, u 12, u 13, u 14, u 15, u 16, u 17, u 18, u 19, u 20, u 21, u 22, u 23, u 24, u 25, u 26, u 27, u 28] := hAr.symm
  have q1 : u 1 = _ := Option.some.inj b1
  clear b1
  have q2 : u 2 = _ := Option.some.inj b2
  clear b2
  have q4 : u 4 = _ := Option.some.inj b4
  clear b4
  have q27 : u 27 = _ := Option.some.inj e27
  clear e27
  have q28 : u 28 = _ := Option.some.inj e28
  clear e28
  rw [q1, q2, q4, q27, q28]
  clear q1 q2 q4 q27 q28
  have hbl := hB; clear hB
  replace RA := hmR RA hbl
  replace RB := hmR RB hbl
  replace CX := hmB CX hbl
  replace RES := hmB RES hbl
  replace HW := hmW HW hbl; clear hbl
  clear CX0 CX1 CX2
  obtain ⟨CX0, CX1, CX2⟩ := CX.out.cs3
  simp only [List.drop_succ_cons, List.drop_zero]
  obtain ⟨Ax, cx, rfl, hcAx, hrAx⟩ := hx27.row
  obtain ⟨Ay, cy, rfl, hcAy, hrAy⟩ := hy27.row
  have HNx := Lib.hid hx27; have HNy := Lib.hid hy27; clear hx27 hy27 hcAx hrAx hcAy hrAy
  obtain ⟨d0, d1, d2⟩ := RES.out.cs3
  obtain ⟨f0, f1, f2⟩ := RES.out.fz3
  go_wp2
  exact bodyPost_ret (results_row_tmp rfl _ _ (w.heap.size + 1) 25 _ (0, 0) _ _ rfl rfl (RES.out.put3 _ _ _) Tryz.underlying25 rfl (by kernel_rfl)) rfl ⟨_, _, rfl, (RdN.set3 RES.out (HNx.out) _ _ _), (RdN.set3 RES.out (HNy.out) _ _ _), (bel_set3 (g := w.heap.size + 1) HW.out (by omega) _ _ _)⟩
end
end Go.Proofs.YtmbbdjpnecjleaaGreat
