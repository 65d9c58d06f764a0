/-
 Parts: K6.
-/
import Derived.Test.YtmbbdjpnecjleaaGreatH19
import Derived.Test.YtmbbdjpnecjleaaGreatH20
import Derived.BigQuiet
namespace Go.Proofs.YtmbbdjpnecjleaaGreat
section
set_option maxRecDepth 100000
set_option maxHeartbeats 1000000
open Go.RowKit

def FitsR (q : Q) (t : Int) (v : Q) (c : Int) : Prop :=
 (kindI t ≠ 3 ∧ v = noQ ∧ c = 11) ∨ (kindI t = 3 ∧ wholeB t = true ∧ (q.d ≠ 1 ∨ (q.d = 1 ∧ holdsB q.s q.n t = false)) ∧ v = noQ ∧ c = 2) ∨ (kindI t = 3 ∧ wholeB t = true ∧ q.d = 1 ∧ holdsB q.s q.n t = true ∧ v = q ∧ c = 0) ∨
 (t = 12 ∧ ((FlOver q 32 ∧ v = noQ ∧ c = 2) ∨ (FlFit q 32 v ∧ c = 0))) ∨ (t = 13 ∧ ((FlOver q 64 ∧ v = noQ ∧ c = 2) ∨ (FlFit q 64 v ∧ c = 0))) ∨ (kindI t = 3 ∧ wholeB t = false ∧ t ≠ 12 ∧ t ≠ 13 ∧ v = q ∧ c = 0)
theorem kfits_any (q : Q) (t : Int) (hd : q.d ≠ 0) : ∃ v c, FitsR q t v c := by
 by_cases h1 : kindI t = 3
 · cases h2 : wholeB t
   · by_cases h3 : t = 12
     · rcases fl_any q (.inl rfl : (32 : Int) = 32 ∨ (32 : Int) = 64) hd with h | ⟨v, h⟩
       · exact ⟨noQ, 2, .inr (.inr (.inr (.inl ⟨h3, .inl ⟨h, rfl, rfl⟩⟩)))⟩
       · exact ⟨v, 0, .inr (.inr (.inr (.inl ⟨h3, .inr ⟨h, rfl⟩⟩)))⟩
     · by_cases h4 : t = 13
       · rcases fl_any q (.inr rfl : (64 : Int) = 32 ∨ (64 : Int) = 64) hd with h | ⟨v, h⟩
         · exact ⟨noQ, 2, .inr (.inr (.inr (.inr (.inl ⟨h4, .inl ⟨h, rfl, rfl⟩⟩))))⟩
         · exact ⟨v, 0, .inr (.inr (.inr (.inr (.inl ⟨h4, .inr ⟨h, rfl⟩⟩))))⟩
       · exact ⟨q, 0, .inr (.inr (.inr (.inr (.inr ⟨h1, h2, h3, h4, rfl, rfl⟩))))⟩
   · by_cases h3 : q.d = 1
     · cases h4 : holdsB q.s q.n t
       · exact ⟨noQ, 2, .inr (.inl ⟨h1, h2, .inr ⟨h3, h4⟩, rfl, rfl⟩)⟩
       · exact ⟨q, 0, .inr (.inr (.inl ⟨h1, h2, h3, h4, rfl, rfl⟩))⟩
     · exact ⟨noQ, 2, .inr (.inl ⟨h1, h2, .inl h3, rfl, rfl⟩)⟩
 · exact ⟨noQ, 11, .inl ⟨h1, rfl, rfl⟩⟩
theorem kFits_type (k : Int) (b : Bool) (s : ByteArray) (K t : Int) (q : Q) (A B : Option Addr) (c d : Nat) (w : World) (h : RdL w A (limbs q.n)) (h' : RdL w B (limbs q.d)) (hc : (limbs q.n).length ≤ c) (hc' : (limbs q.d).length ≤ d) (hn : q.n < Top) (hd : q.d < Top) (hK : kindI t = K) (hne : ¬ k = K) :
 Calls Tryz.prog 29 #[.agg #[.int .i64 k, .bool b, .string s, .bool q.s, .slice A (limbs q.n).length c, .slice B (limbs q.d).length d], .int .i64 t] w (RetV 0 false ⟨#[]⟩ noQ 11 w) := by
 have RA := Lib.hid h; clear h
 have RB := Lib.hid h'; clear h'
 have LA := Lib.hid (And.intro hn hc); clear hn hc
 have LB := Lib.hid (And.intro hd hc'); clear hd hc'
 have KK := Lib.hid (fun W => kKind_is t W hK); clear hK
 have hne1 : (k != K) = true := by simpa using hne
 have HK9 := Lib.hid hne
 obtain ⟨wa, hwa⟩ : ∃ wa, wa = (w.alloc (.cells #[.int .i64 k, .bool b, .string s, .bool q.s, .slice A (limbs q.n).length c, .slice B (limbs q.d).length d] 27)).alloc (.cells #[.int .i64 0, .bool false, .string ⟨#[]⟩, .bool false, .slice none 0 0, .slice none 0 0] 27) := ⟨_, rfl⟩
 obtain ⟨hbl, CX, RES⟩ := kal2 hwa
 replace RA := hmR RA hbl
 replace RB := hmR RB hbl
 have HW := Lib.hid hbl; clear hbl
 replace CX := Lib.hid CX
 replace RES := Lib.hid RES
 go_enter Tryz.func29, Tryz.ntmps29
 go_wp2_with fail
 rw [← hwa]
 clear hwa
 obtain ⟨CX0, CX1, CX2, CX3, CX4, CX5⟩ := CX.out.cs6
 go_quiet (first | (go_at_call 65; exact Calls.quiet_of_same (KK.out _)))
 obtain ⟨wd, hwd⟩ : ∃ wd, wd = wa.drewN nq := ⟨_, rfl⟩
 have hbl : Below wa.heap.size wa wd := by rw [hwd]; exact bel_drewN (bel_refl _) _
 rw [← hwd]
 clear hwd
 replace RA := hmR RA hbl
 replace RB := hmR RB hbl
 replace CX := hmB CX hbl
 replace RES := hmB RES hbl
 replace HW := hmW HW hbl; clear hbl
 clear CX0 CX1 CX2 CX3 CX4 CX5
 obtain ⟨CX0, CX1, CX2, CX3, CX4, CX5⟩ := CX.out.cs6
 obtain ⟨d0, d1, d2, d3, d4, d5⟩ := RES.out.cs6
 obtain ⟨f0, f1, f2, f3, f4, f5⟩ := RES.out.fz6
 go_wp2
 exact bodyPost_ret (results_row_tmp rfl _ _ (w.heap.size + 1) 27 _ (0, 0) _ _ rfl rfl (RES.out.put6 _ _ _ _ _ _) Tryz.underlying27 rfl (by kernel_rfl)) rfl ⟨_, _, rfl, (RdN.set6 RES.out rfl (RdN.none0 _) _ _ _ _ _ _), (RdN.set6 RES.out rfl (RdN.none0 _) _ _ _ _ _ _), (bel_set6 (g := w.heap.size + 1) HW.out (by omega) _ _ _ _ _ _)⟩
theorem kFits_frac (t : Int) (q : Q) (A B : Option Addr) (c d : Nat) (w : World) (h : RdL w A (limbs q.n)) (h' : RdL w B (limbs q.d)) (hc : (limbs q.n).length ≤ c) (hc' : (limbs q.d).length ≤ d) (hn : q.n < Top) (hd : q.d < Top) (hK : kindI t = 3) (hw : wholeB t = true) (hd1 : ¬ q.d = 1) :
 Calls Tryz.prog 29 #[.agg #[.int .i64 3, .bool false, .string ⟨#[]⟩, .bool q.s, .slice A (limbs q.n).length c, .slice B (limbs q.d).length d], .int .i64 t] w (RetV 0 false ⟨#[]⟩ noQ 2 w) := by
 have RA := Lib.hid h; clear h
 have RB := Lib.hid h'; clear h'
 have LA := Lib.hid (And.intro hn hc); clear hn hc
 have LB := Lib.hid (And.intro hd hc'); clear hd hc'
 have KK := Lib.hid (fun W => kKind_is t W hK); clear hK
 have KW := Lib.hid (fun W => kWhole_is t W hw); clear hw
 have HD := Lib.hid (decide_eq_false hd1); clear hd1
 obtain ⟨wa, hwa⟩ : ∃ wa, wa = (w.alloc (.cells #[.int .i64 3, .bool false, .string ⟨#[]⟩, .bool q.s, .slice A (limbs q.n).length c, .slice B (limbs q.d).length d] 27)).alloc (.cells #[.int .i64 0, .bool false, .string ⟨#[]⟩, .bool false, .slice none 0 0, .slice none 0 0] 27) := ⟨_, rfl⟩
 obtain ⟨hbl, CX, RES⟩ := kal2 hwa
 replace RA := hmR RA hbl
 replace RB := hmR RB hbl
 have HW := Lib.hid hbl; clear hbl
 replace CX := Lib.hid CX
 replace RES := Lib.hid RES
 go_enter Tryz.func29, Tryz.ntmps29
 go_wp2_with fail
 rw [← hwa]
 clear hwa
 obtain ⟨CX0, CX1, CX2, CX3, CX4, CX5⟩ := CX.out.cs6
 go_quiet (first | (go_at_call 65; exact Calls.quiet_of_same (KK.out _)))
 obtain ⟨wd, hwd⟩ : ∃ wd, wd = wa.drewN nq := ⟨_, rfl⟩
 have hbl : Below wa.heap.size wa wd := by rw [hwd]; exact bel_drewN (bel_refl _) _
 rw [← hwd]
 clear hwd
 replace RA := hmR RA hbl
 replace RB := hmR RB hbl
 replace CX := hmB CX hbl
 replace RES := hmB RES hbl
 replace HW := hmW HW hbl; clear hbl
 clear CX0 CX1 CX2 CX3 CX4 CX5
 obtain ⟨CX0, CX1, CX2, CX3, CX4, CX5⟩ := CX.out.cs6
 go_wp2_with fail
 refine (KW.out _).mono ?_
 rintro e wv ⟨rfl, hwv⟩
 obtain rfl := hwv.symm
 clear hwv
 go_wp2_with fail
 refine (kIsW_num q A B c d _ RA.out RB.out LA.out.2 LB.out.2 LA.out.1 LB.out.1).mono ?_
 rintro e w1 ⟨rfl, hbl⟩
 replace RA := hmR RA hbl
 replace RB := hmR RB hbl
 replace CX := hmB CX hbl
 replace RES := hmB RES hbl
 replace HW := hmW HW hbl; clear hbl
 clear CX0 CX1 CX2 CX3 CX4 CX5
 obtain ⟨CX0, CX1, CX2, CX3, CX4, CX5⟩ := CX.out.cs6
 rw [HD.out]
 obtain ⟨d0, d1, d2, d3, d4, d5⟩ := RES.out.cs6
 obtain ⟨f0, f1, f2, f3, f4, f5⟩ := RES.out.fz6
 go_wp2
 exact bodyPost_ret (results_row_tmp rfl _ _ (w.heap.size + 1) 27 _ (0, 0) _ _ rfl rfl (RES.out.put6 _ _ _ _ _ _) Tryz.underlying27 rfl (by kernel_rfl)) rfl ⟨_, _, rfl, (RdN.set6 RES.out rfl (RdN.none0 _) _ _ _ _ _ _), (RdN.set6 RES.out rfl (RdN.none0 _) _ _ _ _ _ _), (bel_set6 (g := w.heap.size + 1) HW.out (by omega) _ _ _ _ _ _)⟩
theorem kFits_not (t : Int) (q : Q) (A B : Option Addr) (c d : Nat) (w : World) (h : RdL w A (limbs q.n)) (h' : RdL w B (limbs q.d)) (hc : (limbs q.n).length ≤ c) (hc' : (limbs q.d).length ≤ d) (hn : q.n < Top) (hd : q.d < Top) (hK : kindI t = 3) (hw : wholeB t = true) (hd1 : q.d = 1) (hh : holdsB q.s q.n t = false) :
 Calls Tryz.prog 29 #[.agg #[.int .i64 3, .bool false, .string ⟨#[]⟩, .bool q.s, .slice A (limbs q.n).length c, .slice B (limbs q.d).length d], .int .i64 t] w (RetV 0 false ⟨#[]⟩ noQ 2 w) := by
 have RA := Lib.hid h; clear h
 have RB := Lib.hid h'; clear h'
 have LA := Lib.hid (And.intro hn hc); clear hn hc
 have LB := Lib.hid (And.intro hd hc'); clear hd hc'
 have KK := Lib.hid (fun W => kKind_is t W hK); clear hK
 have KW := Lib.hid (fun W => kWhole_is t W hw); clear hw
 have HD := Lib.hid (decide_eq_true hd1); clear hd1
 have KH := Lib.hid (fun W h h2 => kHolds_is q.s t q A B c d W h h2 LA.out.2 LB.out.2 LA.out.1 LB.out.1 hh); clear hh
 obtain ⟨wa, hwa⟩ : ∃ wa, wa = (w.alloc (.cells #[.int .i64 3, .bool false, .string ⟨#[]⟩, .bool q.s, .slice A (limbs q.n).length c, .slice B (limbs q.d).length d] 27)).alloc (.cells #[.int .i64 0, .bool false, .string ⟨#[]⟩, .bool false, .slice none 0 0, .slice none 0 0] 27) := ⟨_, rfl⟩
 obtain ⟨hbl, CX, RES⟩ := kal2 hwa
 replace RA := hmR RA hbl
 replace RB := hmR RB hbl
 have HW := Lib.hid hbl; clear hbl
 replace CX := Lib.hid CX
 replace RES := Lib.hid RES
 go_enter Tryz.func29, Tryz.ntmps29
 go_wp2_with fail
 rw [← hwa]
 clear hwa
 obtain ⟨CX0, CX1, CX2, CX3, CX4, CX5⟩ := CX.out.cs6
 go_quiet (first | (go_at_call 65; exact Calls.quiet_of_same (KK.out _)))
 obtain ⟨wd, hwd⟩ : ∃ wd, wd = wa.drewN nq := ⟨_, rfl⟩
 have hbl : Below wa.heap.size wa wd := by rw [hwd]; exact bel_drewN (bel_refl _) _
 rw [← hwd]
 clear hwd
 replace RA := hmR RA hbl
 replace RB := hmR RB hbl
 replace CX := hmB CX hbl
 replace RES := hmB RES hbl
 replace HW := hmW HW hbl; clear hbl
 clear CX0 CX1 CX2 CX3 CX4 CX5
 obtain ⟨CX0, CX1, CX2, CX3, CX4, CX5⟩ := CX.out.cs6
 go_wp2_with fail
 refine (KW.out _).mono ?_
 rintro e wv ⟨rfl, hwv⟩
 obtain rfl := hwv.symm
 clear hwv
 go_wp2_with fail
 refine (kIsW_num q A B c d _ RA.out RB.out LA.out.2 LB.out.2 LA.out.1 LB.out.1).mono ?_
 rintro e w1 ⟨rfl, hbl⟩
 replace RA := hmR RA hbl
 replace RB := hmR RB hbl
 replace CX := hmB CX hbl
 replace RES := hmB RES hbl
 replace HW := hmW HW hbl; clear hbl
 clear CX0 CX1 CX2 CX3 CX4 CX5
 obtain ⟨CX0, CX1, CX2, CX3, CX4, CX5⟩ := CX.out.cs6
 rw [HD.out]
 go_wp2_with fail
 refine (KH.out _ RA.out RB.out).mono ?_
 rintro e w2 ⟨rfl, hbl⟩
 replace RA := hmR RA hbl
 replace RB := hmR RB hbl
 replace CX := hmB CX hbl
 replace RES := hmB RES hbl
 replace HW := hmW HW hbl; clear hbl
 clear CX0 CX1 CX2 CX3 CX4 CX5
 obtain ⟨CX0, CX1, CX2, CX3, CX4, CX5⟩ := CX.out.cs6
 obtain ⟨d0, d1, d2, d3, d4, d5⟩ := RES.out.cs6
 obtain ⟨f0, f1, f2, f3, f4, f5⟩ := RES.out.fz6
 go_wp2
 exact bodyPost_ret (results_row_tmp rfl _ _ (w.heap.size + 1) 27 _ (0, 0) _ _ rfl rfl (RES.out.put6 _ _ _ _ _ _) Tryz.underlying27 rfl (by kernel_rfl)) rfl ⟨_, _, rfl, (RdN.set6 RES.out rfl (RdN.none0 _) _ _ _ _ _ _), (RdN.set6 RES.out rfl (RdN.none0 _) _ _ _ _ _ _), (bel_set6 (g := w.heap.size + 1) HW.out (by omega) _ _ _ _ _ _)⟩
theorem kFits_yes (t : Int) (q : Q) (A B : Option Addr) (c d : Nat) (w : World) (h : RdL w A (limbs q.n)) (h' : RdL w B (limbs q.d)) (hc : (limbs q.n).length ≤ c) (hc' : (limbs q.d).length ≤ d) (hn : q.n < Top) (hd : q.d < Top) (hK : kindI t = 3) (hw : wholeB t = true) (hd1 : q.d = 1) (hh : holdsB q.s q.n t = true) (h12 : ¬ t = 12) (h13 : ¬ t = 13) :
 Calls Tryz.prog 29 #[.agg #[.int .i64 3, .bool false, .string ⟨#[]⟩, .bool q.s, .slice A (limbs q.n).length c, .slice B (limbs q.d).length d], .int .i64 t] w (RetV 3 false ⟨#[]⟩ q 0 w) := by
 have RA := Lib.hid h; clear h
 have RB := Lib.hid h'; clear h'
 have LA := Lib.hid (And.intro hn hc); clear hn hc
 have LB := Lib.hid (And.intro hd hc'); clear hd hc'
 have KK := Lib.hid (fun W => kKind_is t W hK); clear hK
 have KW := Lib.hid (fun W => kWhole_is t W hw); clear hw
 have HD := Lib.hid (decide_eq_true hd1); clear hd1
 have KH := Lib.hid (fun W h h2 => kHolds_is q.s t q A B c d W h h2 LA.out.2 LB.out.2 LA.out.1 LB.out.1 hh); clear hh
 have n1 : (t == 12) = false := kd_ne h12
 have n2 : (t == 13) = false := kd_ne h13
 obtain ⟨wa, hwa⟩ : ∃ wa, wa = (w.alloc (.cells #[.int .i64 3, .bool false, .string ⟨#[]⟩, .bool q.s, .slice A (limbs q.n).length c, .slice B (limbs q.d).length d] 27)).alloc (.cells #[.int .i64 0, .bool false, .string ⟨#[]⟩, .bool false, .slice none 0 0, .slice none 0 0] 27) := ⟨_, rfl⟩
 obtain ⟨hbl, CX, RES⟩ := kal2 hwa
 replace RA := hmR RA hbl
 replace RB := hmR RB hbl
 have HW := Lib.hid hbl; clear hbl
 replace CX := Lib.hid CX
 replace RES := Lib.hid RES
 go_enter Tryz.func29, Tryz.ntmps29
 go_wp2_with fail
 rw [← hwa]
 clear hwa
 obtain ⟨CX0, CX1, CX2, CX3, CX4, CX5⟩ := CX.out.cs6
 go_quiet (first | (go_at_call 65; exact Calls.quiet_of_same (KK.out _)))
 obtain ⟨wd, hwd⟩ : ∃ wd, wd = wa.drewN nq := ⟨_, rfl⟩
 have hbl : Below wa.heap.size wa wd := by rw [hwd]; exact bel_drewN (bel_refl _) _
 rw [← hwd]
 clear hwd
 replace RA := hmR RA hbl
 replace RB := hmR RB hbl
 replace CX := hmB CX hbl
 replace RES := hmB RES hbl
 replace HW := hmW HW hbl; clear hbl
 clear CX0 CX1 CX2 CX3 CX4 CX5
 obtain ⟨CX0, CX1, CX2, CX3, CX4, CX5⟩ := CX.out.cs6
 go_wp2_with fail
 refine (KW.out _).mono ?_
 rintro e wv ⟨rfl, hwv⟩
 obtain rfl := hwv.symm
 clear hwv
 go_wp2_with fail
 refine (kIsW_num q A B c d _ RA.out RB.out LA.out.2 LB.out.2 LA.out.1 LB.out.1).mono ?_
 rintro e w1 ⟨rfl, hbl⟩
 replace RA := hmR RA hbl
 replace RB := hmR RB hbl
 replace CX := hmB CX hbl
 replace RES := hmB RES hbl
 replace HW := hmW HW hbl; clear hbl
 clear CX0 CX1 CX2 CX3 CX4 CX5
 obtain ⟨CX0, CX1, CX2, CX3, CX4, CX5⟩ := CX.out.cs6
 rw [HD.out]
 go_wp2_with fail
 refine (KH.out _ RA.out RB.out).mono ?_
 rintro e w2 ⟨rfl, hbl⟩
 replace RA := hmR RA hbl
 replace RB := hmR RB hbl
 replace CX := hmB CX hbl
 replace RES := hmB RES hbl
 replace HW := hmW HW hbl; clear hbl
 clear CX0 CX1 CX2 CX3 CX4 CX5
 obtain ⟨CX0, CX1, CX2, CX3, CX4, CX5⟩ := CX.out.cs6
 obtain ⟨d0, d1, d2, d3, d4, d5⟩ := RES.out.cs6
 obtain ⟨f0, f1, f2, f3, f4, f5⟩ := RES.out.fz6
 go_wp2
 exact bodyPost_ret (results_row_tmp rfl _ _ (w.heap.size + 1) 27 _ (0, 0) _ _ rfl rfl (RES.out.put6 _ _ _ _ _ _) Tryz.underlying27 rfl (by kernel_rfl)) rfl ⟨_, _, rfl, (RdN.set6 RES.out rfl (⟨A, c, rfl, LA.out.2, RA.out⟩) _ _ _ _ _ _), (RdN.set6 RES.out rfl (⟨B, d, rfl, LB.out.2, RB.out⟩) _ _ _ _ _ _), (bel_set6 (g := w.heap.size + 1) HW.out (by omega) _ _ _ _ _ _)⟩
theorem kFits_free (t : Int) (q : Q) (A B : Option Addr) (c d : Nat) (w : World) (h : RdL w A (limbs q.n)) (h' : RdL w B (limbs q.d)) (hc : (limbs q.n).length ≤ c) (hc' : (limbs q.d).length ≤ d) (hn : q.n < Top) (hd : q.d < Top) (hK : kindI t = 3) (hw : wholeB t = false) (h12 : ¬ t = 12) (h13 : ¬ t = 13) :
 Calls Tryz.prog 29 #[.agg #[.int .i64 3, .bool false, .string ⟨#[]⟩, .bool q.s, .slice A (limbs q.n).length c, .slice B (limbs q.d).length d], .int .i64 t] w (RetV 3 false ⟨#[]⟩ q 0 w) := by
 have RA := Lib.hid h; clear h
 have RB := Lib.hid h'; clear h'
 have LA := Lib.hid (And.intro hn hc); clear hn hc
 have LB := Lib.hid (And.intro hd hc'); clear hd hc'
 have KK := Lib.hid (fun W => kKind_is t W hK); clear hK
 have KW := Lib.hid (fun W => kWhole_is t W hw); clear hw
 have n1 : (t == 12) = false := kd_ne h12
 have n2 : (t == 13) = false := kd_ne h13
 obtain ⟨wa, hwa⟩ : ∃ wa, wa = (w.alloc (.cells #[.int .i64 3, .bool false, .string ⟨#[]⟩, .bool q.s, .slice A (limbs q.n).length c, .slice B (limbs q.d).length d] 27)).alloc (.cells #[.int .i64 0, .bool false, .string ⟨#[]⟩, .bool false, .slice none 0 0, .slice none 0 0] 27) := ⟨_, rfl⟩
 obtain ⟨hbl, CX, RES⟩ := kal2 hwa
 replace RA := hmR RA hbl
 replace RB := hmR RB hbl
 have HW := Lib.hid hbl; clear hbl
 replace CX := Lib.hid CX
 replace RES := Lib.hid RES
 go_enter Tryz.func29, Tryz.ntmps29
 go_wp2_with fail
 rw [← hwa]
 clear hwa
 obtain ⟨CX0, CX1, CX2, CX3, CX4, CX5⟩ := CX.out.cs6
 go_quiet (first | (go_at_call 65; exact Calls.quiet_of_same (KK.out _)))
 obtain ⟨wd, hwd⟩ : ∃ wd, wd = wa.drewN nq := ⟨_, rfl⟩
 have hbl : Below wa.heap.size wa wd := by rw [hwd]; exact bel_drewN (bel_refl _) _
 rw [← hwd]
 clear hwd
 replace RA := hmR RA hbl
 replace RB := hmR RB hbl
 replace CX := hmB CX hbl
 replace RES := hmB RES hbl
 replace HW := hmW HW hbl; clear hbl
 clear CX0 CX1 CX2 CX3 CX4 CX5
 obtain ⟨CX0, CX1, CX2, CX3, CX4, CX5⟩ := CX.out.cs6
 go_wp2_with fail
 refine (KW.out _).mono ?_
 rintro e wv ⟨rfl, hwv⟩
 obtain rfl := hwv.symm
 clear hwv
 obtain ⟨d0, d1, d2, d3, d4, d5⟩ := RES.out.cs6
 obtain ⟨f0, f1, f2, f3, f4, f5⟩ := RES.out.fz6
 go_wp2
 exact bodyPost_ret (results_row_tmp rfl _ _ (w.heap.size + 1) 27 _ (0, 0) _ _ rfl rfl (RES.out.put6 _ _ _ _ _ _) Tryz.underlying27 rfl (by kernel_rfl)) rfl ⟨_, _, rfl, (RdN.set6 RES.out rfl (⟨A, c, rfl, LA.out.2, RA.out⟩) _ _ _ _ _ _), (RdN.set6 RES.out rfl (⟨B, d, rfl, LB.out.2, RB.out⟩) _ _ _ _ _ _), (bel_set6 (g := w.heap.size + 1) HW.out (by omega) _ _ _ _ _ _)⟩
theorem kFits_f32 {k c0 : Int} {v : Q} (q : Q) (A B : Option Addr) (c d : Nat) (w : World) (h : RdL w A (limbs q.n)) (h' : RdL w B (limbs q.d)) (hc : (limbs q.n).length ≤ c) (hc' : (limbs q.d).length ≤ d) (hn : q.n < Top) (hd : q.d < Top) (hF : ∀ W, RdL W A (limbs q.n) → RdL W B (limbs q.d) → Calls Tryz.prog 67 #[.agg #[.bool q.s, .slice A (limbs q.n).length c, .slice B (limbs q.d).length d], .int .i64 32] W (RetV k false ⟨#[]⟩ v c0 W)) :
 Calls Tryz.prog 29 #[.agg #[.int .i64 3, .bool false, .string ⟨#[]⟩, .bool q.s, .slice A (limbs q.n).length c, .slice B (limbs q.d).length d], .int .i64 12] w (RetV k false ⟨#[]⟩ v c0 w) := by
 have HFL := Lib.hid hF; clear hF
 have RA := Lib.hid h; clear h
 have RB := Lib.hid h'; clear h'
 have LA := Lib.hid (And.intro hn hc); clear hn hc
 have LB := Lib.hid (And.intro hd hc'); clear hd hc'
 have KK := Lib.hid (fun W => kKind_is 12 W rfl)
 have KW := Lib.hid (fun W => kWhole_is 12 W rfl)
 obtain ⟨wa, hwa⟩ : ∃ wa, wa = (w.alloc (.cells #[.int .i64 3, .bool false, .string ⟨#[]⟩, .bool q.s, .slice A (limbs q.n).length c, .slice B (limbs q.d).length d] 27)).alloc (.cells #[.int .i64 0, .bool false, .string ⟨#[]⟩, .bool false, .slice none 0 0, .slice none 0 0] 27) := ⟨_, rfl⟩
 obtain ⟨hbl, CX, RES⟩ := kal2 hwa
 replace RA := hmR RA hbl
 replace RB := hmR RB hbl
 have HW := Lib.hid hbl; clear hbl
 replace CX := Lib.hid CX
 replace RES := Lib.hid RES
 go_enter Tryz.func29, Tryz.ntmps29
 go_wp2_with fail
 rw [← hwa]
 clear hwa
 obtain ⟨CX0, CX1, CX2, CX3, CX4, CX5⟩ := CX.out.cs6
 go_quiet (first | (go_at_call 65; exact Calls.quiet_of_same (KK.out _)))
 obtain ⟨wd, hwd⟩ : ∃ wd, wd = wa.drewN nq := ⟨_, rfl⟩
 have hbl : Below wa.heap.size wa wd := by rw [hwd]; exact bel_drewN (bel_refl _) _
 rw [← hwd]
 clear hwd
 replace RA := hmR RA hbl
 replace RB := hmR RB hbl
 replace CX := hmB CX hbl
 replace RES := hmB RES hbl
 replace HW := hmW HW hbl; clear hbl
 clear CX0 CX1 CX2 CX3 CX4 CX5
 obtain ⟨CX0, CX1, CX2, CX3, CX4, CX5⟩ := CX.out.cs6
 go_wp2_with fail
 refine (KW.out _).mono ?_
 rintro e wv ⟨rfl, hwv⟩
 obtain rfl := hwv.symm
 clear hwv
 go_wp2_with fail
 refine (HFL.out _ RA.out RB.out).mono ?_
 rintro e w1 ⟨x, y, rfl, hx, hy, hbl⟩
 replace RA := hmR RA hbl
 replace RB := hmR RB hbl
 replace CX := hmB CX hbl
 replace RES := hmB RES hbl
 replace HW := hmW HW hbl; clear hbl
 clear CX0 CX1 CX2 CX3 CX4 CX5
 obtain ⟨CX0, CX1, CX2, CX3, CX4, CX5⟩ := CX.out.cs6
 obtain ⟨Ax, cx, rfl, hcx, hrx⟩ := hx.row
 obtain ⟨Ay, cy, rfl, hcy, hry⟩ := hy.row
 have HX := Lib.hid hx; have HY := Lib.hid hy; clear hx hy hcx hrx hcy hry
 obtain ⟨d0, d1, d2, d3, d4, d5⟩ := RES.out.cs6
 obtain ⟨f0, f1, f2, f3, f4, f5⟩ := RES.out.fz6
 go_wp2
 exact bodyPost_ret (results_row_tmp rfl _ _ (w.heap.size + 1) 27 _ (0, 0) _ _ rfl rfl (RES.out.put6 _ _ _ _ _ _) Tryz.underlying27 rfl (by kernel_rfl)) rfl ⟨_, _, rfl, (RdN.set6 RES.out rfl (HX.out) _ _ _ _ _ _), (RdN.set6 RES.out rfl (HY.out) _ _ _ _ _ _), (bel_set6 (g := w.heap.size + 1) HW.out (by omega) _ _ _ _ _ _)⟩
theorem kFits_f64 {k c0 : Int} {v : Q} (q : Q) (A B : Option Addr) (c d : Nat) (w : World) (h : RdL w A (limbs q.n)) (h' : RdL w B (limbs q.d)) (hc : (limbs q.n).length ≤ c) (hc' : (limbs q.d).length ≤ d) (hn : q.n < Top) (hd : q.d < Top) (hF : ∀ W, RdL W A (limbs q.n) → RdL W B (limbs q.d) → Calls Tryz.prog 67 #[.agg #[.bool q.s, .slice A (limbs q.n).length c, .slice B (limbs q.d).length d], .int .i64 64] W (RetV k false ⟨#[]⟩ v c0 W)) :
 Calls Tryz.prog 29 #[.agg #[.int .i64 3, .bool false, .string ⟨#[]⟩, .bool q.s, .slice A (limbs q.n).length c, .slice B (limbs q.d).length d], .int .i64 13] w (RetV k false ⟨#[]⟩ v c0 w) := by
 have HFL := Lib.hid hF; clear hF
 have RA := Lib.hid h; clear h
 have RB := Lib.hid h'; clear h'
 have LA := Lib.hid (And.intro hn hc); clear hn hc
 have LB := Lib.hid (And.intro hd hc'); clear hd hc'
 have KK := Lib.hid (fun W => kKind_is 13 W rfl)
 have KW := Lib.hid (fun W => kWhole_is 13 W rfl)
 obtain ⟨wa, hwa⟩ : ∃ wa, wa = (w.alloc (.cells #[.int .i64 3, .bool false, .string ⟨#[]⟩, .bool q.s, .slice A (limbs q.n).length c, .slice B (limbs q.d).length d] 27)).alloc (.cells #[.int .i64 0, .bool false, .string ⟨#[]⟩, .bool false, .slice none 0 0, .slice none 0 0] 27) := ⟨_, rfl⟩
 obtain ⟨hbl, CX, RES⟩ := kal2 hwa
 replace RA := hmR RA hbl
 replace RB := hmR RB hbl
 have HW := Lib.hid hbl; clear hbl
 replace CX := Lib.hid CX
 replace RES := Lib.hid RES
 go_enter Tryz.func29, Tryz.ntmps29
 go_wp2_with fail
 rw [← hwa]
 clear hwa
 obtain ⟨CX0, CX1, CX2, CX3, CX4, CX5⟩ := CX.out.cs6
 go_quiet (first | (go_at_call 65; exact Calls.quiet_of_same (KK.out _)))
 obtain ⟨wd, hwd⟩ : ∃ wd, wd = wa.drewN nq := ⟨_, rfl⟩
 have hbl : Below wa.heap.size wa wd := by rw [hwd]; exact bel_drewN (bel_refl _) _
 rw [← hwd]
 clear hwd
 replace RA := hmR RA hbl
 replace RB := hmR RB hbl
 replace CX := hmB CX hbl
 replace RES := hmB RES hbl
 replace HW := hmW HW hbl; clear hbl
 clear CX0 CX1 CX2 CX3 CX4 CX5
 obtain ⟨CX0, CX1, CX2, CX3, CX4, CX5⟩ := CX.out.cs6
 go_wp2_with fail
 refine (KW.out _).mono ?_
 rintro e wv ⟨rfl, hwv⟩
 obtain rfl := hwv.symm
 clear hwv
 go_wp2_with fail
 refine (HFL.out _ RA.out RB.out).mono ?_
 rintro e w1 ⟨x, y, rfl, hx, hy, hbl⟩
 replace RA := hmR RA hbl
 replace RB := hmR RB hbl
 replace CX := hmB CX hbl
 replace RES := hmB RES hbl
 replace HW := hmW HW hbl; clear hbl
 clear CX0 CX1 CX2 CX3 CX4 CX5
 obtain ⟨CX0, CX1, CX2, CX3, CX4, CX5⟩ := CX.out.cs6
 obtain ⟨Ax, cx, rfl, hcx, hrx⟩ := hx.row
 obtain ⟨Ay, cy, rfl, hcy, hry⟩ := hy.row
 have HX := Lib.hid hx; have HY := Lib.hid hy; clear hx hy hcx hrx hcy hry
 obtain ⟨d0, d1, d2, d3, d4, d5⟩ := RES.out.cs6
 obtain ⟨f0, f1, f2, f3, f4, f5⟩ := RES.out.fz6
 go_wp2
 exact bodyPost_ret (results_row_tmp rfl _ _ (w.heap.size + 1) 27 _ (0, 0) _ _ rfl rfl (RES.out.put6 _ _ _ _ _ _) Tryz.underlying27 rfl (by kernel_rfl)) rfl ⟨_, _, rfl, (RdN.set6 RES.out rfl (HX.out) _ _ _ _ _ _), (RdN.set6 RES.out rfl (HY.out) _ _ _ _ _ _), (bel_set6 (g := w.heap.size + 1) HW.out (by omega) _ _ _ _ _ _)⟩
theorem kFits_is {k : Int} {v : Q} {e : Int} (t : Int) (q : Q) (A B : Option Addr) (c d : Nat) (w : World) (h : RdL w A (limbs q.n)) (h' : RdL w B (limbs q.d)) (hc : (limbs q.n).length ≤ c) (hc' : (limbs q.d).length ≤ d) (hn : q.n < Top) (hd : q.d < Top) (hq : QR q) (hF : FitsR q t v e) (hk : k = if e = 0 then 3 else 0) :
 Calls Tryz.prog 29 #[.agg #[.int .i64 3, .bool false, .string ⟨#[]⟩, .bool q.s, .slice A (limbs q.n).length c, .slice B (limbs q.d).length d], .int .i64 t] w (RetV k false ⟨#[]⟩ v e w) := by
 rcases hF with ⟨h1, rfl, rfl⟩ | ⟨h1, h2, h3, rfl, rfl⟩ | ⟨h1, h2, h3, h4, rfl, rfl⟩ | ⟨rfl, hf⟩ | ⟨rfl, hf⟩ | ⟨h1, h2, h3, h4, rfl, rfl⟩
 · rw [show k = 0 from hk]
   exact kFits_type 3 false ⟨#[]⟩ _ t q A B c d w h h' hc hc' hn hd rfl (fun e => h1 e.symm)
 · rw [show k = 0 from hk]
   rcases h3 with h3 | ⟨h3, h4⟩
   · exact kFits_frac t q A B c d w h h' hc hc' hn hd h1 h2 h3
   · exact kFits_not t q A B c d w h h' hc hc' hn hd h1 h2 h3 h4
 · rw [show k = 3 from hk]
   have ht : ¬ t = 12 ∧ ¬ t = 13 := by
    constructor
    · rintro rfl; cases h2
    · rintro rfl; cases h2
   exact kFits_yes t v A B c d w h h' hc hc' hn hd h1 h2 h3 h4 ht.1 ht.2
 · rcases hf with ⟨hf, rfl, rfl⟩ | ⟨hf, rfl⟩
   · rw [show k = 0 from hk]
     exact kFits_f32 q A B c d w h h' hc hc' hn hd fun W g g' => kFloat_over 32 q A B c d W g g' hc hc' hn hd hq hf
   · rw [show k = 3 from hk]
     exact kFits_f32 q A B c d w h h' hc hc' hn hd fun W g g' => kFloat_fit 32 q A B c d W g g' hc hc' hn hd hq hf
 · rcases hf with ⟨hf, rfl, rfl⟩ | ⟨hf, rfl⟩
   · rw [show k = 0 from hk]
     exact kFits_f64 q A B c d w h h' hc hc' hn hd fun W g g' => kFloat_over 64 q A B c d W g g' hc hc' hn hd hq hf
   · rw [show k = 3 from hk]
     exact kFits_f64 q A B c d w h h' hc hc' hn hd fun W g g' => kFloat_fit 64 q A B c d W g g' hc hc' hn hd hq hf
 · rw [show k = 3 from hk]
   exact kFits_free t v A B c d w h h' hc hc' hn hd h1 h2 h3 h4
end
end Go.Proofs.YtmbbdjpnecjleaaGreat
