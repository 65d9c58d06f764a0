/-
 Parts: K5.
-/
import Derived.Test.YtmbbdjpnecjleaaGreatH19
namespace Go.Proofs.YtmbbdjpnecjleaaGreat
section
set_option maxRecDepth 100000
set_option maxHeartbeats 1000000
open Go.RowKit

theorem bits_le (n N : Nat) : nbits n ≤ N ↔ n < 2 ^ N := ⟨fun h => Nat.lt_of_lt_of_le (nbits_lt n) (Nat.pow_le_pow_right (by decide) h), nbits_le_of⟩
def holdsB (s : Bool) (n : Nat) (t : Int) : Bool := if bitsN t = 0 then true else if unsB t then !s && decide (n < 2 ^ bitsN t) else if s then decide (n ≤ 2 ^ (bitsN t - 1)) else decide (n < 2 ^ (bitsN t - 1))
theorem bitsN_le (t : Int) : bitsN t ≤ 64 := by
 unfold bitsN
 repeat' split
 all_goals omega
theorem pow_small {M : Nat} (h : M ≤ 64) : 2 ^ M < Top := Nat.lt_of_le_of_lt (Nat.pow_le_pow_right (by decide) h) (by decide +kernel)
theorem cmpI_le0 {a b : Nat} : cmpI (a : Int) (b : Int) ≤ 0 ↔ a ≤ b := by
 rw [cmpI_nat]
 split
 · omega
 · split <;> omega
theorem ret_bb {b : Bool} {a : Bool} {w w' : World} (h : a = b) (hb : Below w.heap.size w w') : RetBB b w (.returned (.bool a)) w' := by rw [h]; exact ⟨rfl, hb⟩
theorem kHolds_zero (s : Bool) (t : Int) (hN : bitsN t = 0) (q : Q) (A B : Option Addr) (c d : Nat) (w : World) (h : RdL w A (limbs q.n)) (h' : RdL w B (limbs q.d)) (hc : (limbs q.n).length ≤ c) (hc' : (limbs q.d).length ≤ d) (hn : q.n < Top) (hd : q.d < Top) :
 Calls Tryz.prog 66 #[.agg #[.bool s, .slice A (limbs q.n).length c, .slice B (limbs q.d).length d], .int .i64 t] w (RetBB true w) := by
 have RA := Lib.hid h; clear h
 have RB := Lib.hid h'; clear h'
 have LA := Lib.hid (And.intro hn hc); clear hn hc
 have LB := Lib.hid (And.intro hd hc'); clear hd hc'
 have KB := Lib.hid (fun W => kBits_is t W hN); clear hN
 obtain ⟨wa, hwa⟩ : ∃ wa, wa = w.alloc (.cells #[.bool s, .slice A (limbs q.n).length c, .slice B (limbs q.d).length d] 25) := ⟨_, rfl⟩
 obtain ⟨hbl, CX⟩ := kal1 hwa
 replace RA := hmR RA hbl
 replace RB := hmR RB hbl
 have HW := Lib.hid hbl; clear hbl
 replace CX := Lib.hid CX
 go_enter Tryz.func66, Tryz.ntmps66
 go_wp2_with fail
 rw [← hwa]
 clear hwa
 obtain ⟨CX0, CX1, CX2⟩ := CX.out.cs3
 refine (KB.out _).mono ?_
 rintro e w1 ⟨rfl, hbl⟩
 replace RA := hmR RA hbl
 replace RB := hmR RB hbl
 replace CX := hmB CX hbl
 replace HW := hmW HW hbl; clear hbl
 clear CX0 CX1 CX2
 obtain ⟨CX0, CX1, CX2⟩ := CX.out.cs3
 go_wp2
 go_ret
 exact ⟨rfl, HW.out⟩
theorem kHolds_up (t : Int) (N : Nat) (hN : bitsN t = N) (q : Q) (A B : Option Addr) (c d : Nat) (w : World) (h : RdL w A (limbs q.n)) (h' : RdL w B (limbs q.d)) (hc : (limbs q.n).length ≤ c) (hc' : (limbs q.d).length ≤ d) (hn : q.n < Top) (hd : q.d < Top) (h0 : N ≠ 0) (h64 : N ≤ 64) (hu : unsB t = true) :
 Calls Tryz.prog 66 #[.agg #[.bool false, .slice A (limbs q.n).length c, .slice B (limbs q.d).length d], .int .i64 t] w (RetBB (!false && decide (q.n < 2 ^ N)) w) := by
 have RA := Lib.hid h; clear h
 have RB := Lib.hid h'; clear h'
 have LA := Lib.hid (And.intro hn hc); clear hn hc
 have LB := Lib.hid (And.intro hd hc'); clear hd hc'
 have KB := Lib.hid (fun W => kBits_is t W hN); clear hN
 have KU := Lib.hid (fun W => kUns_is t W hu); clear hu
 have z1 : ((N : Int) == 0) = false := eq_zero h0
 have z2 : ¬ (N : Int) = 0 := by omega
 have HN := Lib.hid (And.intro h0 h64); clear h64 h0
 obtain ⟨wa, hwa⟩ : ∃ wa, wa = w.alloc (.cells #[.bool false, .slice A (limbs q.n).length c, .slice B (limbs q.d).length d] 25) := ⟨_, rfl⟩
 obtain ⟨hbl, CX⟩ := kal1 hwa
 replace RA := hmR RA hbl
 replace RB := hmR RB hbl
 have HW := Lib.hid hbl; clear hbl
 replace CX := Lib.hid CX
 go_enter Tryz.func66, Tryz.ntmps66
 go_wp2_with fail
 rw [← hwa]
 clear hwa
 obtain ⟨CX0, CX1, CX2⟩ := CX.out.cs3
 refine (KB.out _).mono ?_
 rintro e w1 ⟨rfl, hbl⟩
 replace RA := hmR RA hbl
 replace RB := hmR RB hbl
 replace CX := hmB CX hbl
 replace HW := hmW HW hbl; clear hbl
 clear CX0 CX1 CX2
 obtain ⟨CX0, CX1, CX2⟩ := CX.out.cs3
 go_wp2_with fail
 refine (KU.out _).mono ?_
 rintro e wu ⟨rfl, rfl⟩
 obtain ⟨nb, hnb⟩ : ∃ nb, nbits q.n = nb := ⟨_, rfl⟩
 have HNB := Lib.hid hnb; clear hnb
 go_wp2_with fail
 refine (bits_is A c q.n nb _ RA.out LA.out.1 HNB.out).mono ?_
 rintro e w2 ⟨rfl, hbl⟩
 replace RA := hmR RA hbl
 replace RB := hmR RB hbl
 replace CX := hmB CX hbl
 replace HW := hmW HW hbl; clear hbl
 clear CX0 CX1 CX2
 obtain ⟨CX0, CX1, CX2⟩ := CX.out.cs3
 go_wp2
 go_ret
 refine ret_bb ?_ HW.out
 rw [Bool.eq_iff_iff, decide_eq_true_iff, Bool.not_false, Bool.true_and, decide_eq_true_iff, ← bits_le, HNB.out]
theorem kHolds_sp (t : Int) (N : Nat) (hN : bitsN t = N) (q : Q) (A B : Option Addr) (c d : Nat) (w : World) (h : RdL w A (limbs q.n)) (h' : RdL w B (limbs q.d)) (hc : (limbs q.n).length ≤ c) (hc' : (limbs q.d).length ≤ d) (hn : q.n < Top) (hd : q.d < Top) (h0 : N ≠ 0) (h64 : N ≤ 64) (hu : unsB t = false) :
 Calls Tryz.prog 66 #[.agg #[.bool false, .slice A (limbs q.n).length c, .slice B (limbs q.d).length d], .int .i64 t] w (RetBB (decide (q.n < 2 ^ (N - 1))) w) := by
 have RA := Lib.hid h; clear h
 have RB := Lib.hid h'; clear h'
 have LA := Lib.hid (And.intro hn hc); clear hn hc
 have LB := Lib.hid (And.intro hd hc'); clear hd hc'
 have KB := Lib.hid (fun W => kBits_is t W hN); clear hN
 have KU := Lib.hid (fun W => kUns_is t W hu); clear hu
 have z1 : ((N : Int) == 0) = false := eq_zero h0
 have z2 : ¬ (N : Int) = 0 := by omega
 have HN := Lib.hid (And.intro h0 h64); clear h64 h0
 obtain ⟨M, hM⟩ : ∃ M, N = M + 1 := ⟨N - 1, by have := HN.out.1; omega⟩
 have z3 : IntKind.i64.wrap ((N : Int) - 1) = (M : Int) := by rw [IntKind.wrap_i64]; have := HN.out.2; omega
 have HM := Lib.hid hM; clear hM
 obtain ⟨wa, hwa⟩ : ∃ wa, wa = w.alloc (.cells #[.bool false, .slice A (limbs q.n).length c, .slice B (limbs q.d).length d] 25) := ⟨_, rfl⟩
 obtain ⟨hbl, CX⟩ := kal1 hwa
 replace RA := hmR RA hbl
 replace RB := hmR RB hbl
 have HW := Lib.hid hbl; clear hbl
 replace CX := Lib.hid CX
 go_enter Tryz.func66, Tryz.ntmps66
 go_wp2_with fail
 rw [← hwa]
 clear hwa
 obtain ⟨CX0, CX1, CX2⟩ := CX.out.cs3
 refine (KB.out _).mono ?_
 rintro e w1 ⟨rfl, hbl⟩
 replace RA := hmR RA hbl
 replace RB := hmR RB hbl
 replace CX := hmB CX hbl
 replace HW := hmW HW hbl; clear hbl
 clear CX0 CX1 CX2
 obtain ⟨CX0, CX1, CX2⟩ := CX.out.cs3
 go_wp2_with fail
 refine (KU.out _).mono ?_
 rintro e wu ⟨rfl, rfl⟩
 obtain ⟨nb, hnb⟩ : ∃ nb, nbits q.n = nb := ⟨_, rfl⟩
 have HNB := Lib.hid hnb; clear hnb
 go_wp2_with fail
 refine (bits_is A c q.n nb _ RA.out LA.out.1 HNB.out).mono ?_
 rintro e w2 ⟨rfl, hbl⟩
 replace RA := hmR RA hbl
 replace RB := hmR RB hbl
 replace CX := hmB CX hbl
 replace HW := hmW HW hbl; clear hbl
 clear CX0 CX1 CX2
 obtain ⟨CX0, CX1, CX2⟩ := CX.out.cs3
 go_wp2
 go_ret
 refine ret_bb ?_ HW.out
 rw [Bool.eq_iff_iff, decide_eq_true_iff, decide_eq_true_iff, HM.out, Nat.add_sub_cancel, ← bits_le, HNB.out]
theorem kHolds_um (t : Int) (N : Nat) (hN : bitsN t = N) (q : Q) (A B : Option Addr) (c d : Nat) (w : World) (h : RdL w A (limbs q.n)) (h' : RdL w B (limbs q.d)) (hc : (limbs q.n).length ≤ c) (hc' : (limbs q.d).length ≤ d) (hn : q.n < Top) (hd : q.d < Top) (h0 : N ≠ 0) (h64 : N ≤ 64) (hu : unsB t = true) :
 Calls Tryz.prog 66 #[.agg #[.bool true, .slice A (limbs q.n).length c, .slice B (limbs q.d).length d], .int .i64 t] w (RetBB false w) := by
 have RA := Lib.hid h; clear h
 have RB := Lib.hid h'; clear h'
 have LA := Lib.hid (And.intro hn hc); clear hn hc
 have LB := Lib.hid (And.intro hd hc'); clear hd hc'
 have KB := Lib.hid (fun W => kBits_is t W hN); clear hN
 have KU := Lib.hid (fun W => kUns_is t W hu); clear hu
 have z1 : ((N : Int) == 0) = false := eq_zero h0
 have z2 : ¬ (N : Int) = 0 := by omega
 have HN := Lib.hid (And.intro h0 h64); clear h64 h0
 obtain ⟨wa, hwa⟩ : ∃ wa, wa = w.alloc (.cells #[.bool true, .slice A (limbs q.n).length c, .slice B (limbs q.d).length d] 25) := ⟨_, rfl⟩
 obtain ⟨hbl, CX⟩ := kal1 hwa
 replace RA := hmR RA hbl
 replace RB := hmR RB hbl
 have HW := Lib.hid hbl; clear hbl
 replace CX := Lib.hid CX
 go_enter Tryz.func66, Tryz.ntmps66
 go_wp2_with fail
 rw [← hwa]
 clear hwa
 obtain ⟨CX0, CX1, CX2⟩ := CX.out.cs3
 refine (KB.out _).mono ?_
 rintro e w1 ⟨rfl, hbl⟩
 replace RA := hmR RA hbl
 replace RB := hmR RB hbl
 replace CX := hmB CX hbl
 replace HW := hmW HW hbl; clear hbl
 clear CX0 CX1 CX2
 obtain ⟨CX0, CX1, CX2⟩ := CX.out.cs3
 go_wp2_with fail
 refine (KU.out _).mono ?_
 rintro e wu ⟨rfl, rfl⟩
 obtain ⟨nb, hnb⟩ : ∃ nb, nbits q.n = nb := ⟨_, rfl⟩
 have HNB := Lib.hid hnb; clear hnb
 go_wp2_with fail
 refine (bits_is A c q.n nb _ RA.out LA.out.1 HNB.out).mono ?_
 rintro e w2 ⟨rfl, hbl⟩
 replace RA := hmR RA hbl
 replace RB := hmR RB hbl
 replace CX := hmB CX hbl
 replace HW := hmW HW hbl; clear hbl
 clear CX0 CX1 CX2
 obtain ⟨CX0, CX1, CX2⟩ := CX.out.cs3
 go_wp2_with fail
 refine (kOne_any _).mono ?_
 rintro e w3 ⟨vo, rfl, hno, hbl⟩
 replace RA := hmR RA hbl
 replace RB := hmR RB hbl
 replace CX := hmB CX hbl
 replace HW := hmW HW hbl; clear hbl
 clear CX0 CX1 CX2
 obtain ⟨CX0, CX1, CX2⟩ := CX.out.cs3
 have HNo := Lib.hid hno; clear hno
 obtain ⟨Ao, co, rfl, hco, hro⟩ := HNo.out.row
 have Ro := Lib.hid hro; have HCo := Lib.hid hco; clear hro hco
 obtain ⟨X, hX⟩ : ∃ X, 2 ^ N = X := ⟨_, rfl⟩
 have HX := Lib.hid (And.intro hX (show X < Top by rw [← hX]; exact pow_small (by have := HN.out.2; omega))); clear hX
 go_wp2_with fail
 refine (shift_fit Ao co 1 N _ Ro.out (small_top (by decide)) (X := X) (by rw [Nat.one_mul]; exact HX.out.1) HX.out.2).mono ?_
 rintro e w4 ⟨vp, rfl, hnp, hbl⟩
 replace RA := hmR RA hbl
 replace RB := hmR RB hbl
 replace Ro := hmR Ro hbl
 replace HNo := hmN HNo hbl
 replace CX := hmB CX hbl
 replace HW := hmW HW hbl; clear hbl
 clear CX0 CX1 CX2
 obtain ⟨CX0, CX1, CX2⟩ := CX.out.cs3
 have HNp := Lib.hid hnp; clear hnp
 obtain ⟨Ap, cp, rfl, hcp, hrp⟩ := HNp.out.row
 have Rp := Lib.hid hrp; have HCp := Lib.hid hcp; clear hrp hcp
 go_wp2_with fail
 refine (cmp_num A Ap c cp q.n X _ RA.out Rp.out LA.out.1 HX.out.2).mono ?_
 rintro e w5 ⟨rfl, hbl⟩
 replace RA := hmR RA hbl
 replace RB := hmR RB hbl
 replace Ro := hmR Ro hbl
 replace HNo := hmN HNo hbl
 replace Rp := hmR Rp hbl
 replace HNp := hmN HNp hbl
 replace CX := hmB CX hbl
 replace HW := hmW HW hbl; clear hbl
 clear CX0 CX1 CX2
 obtain ⟨CX0, CX1, CX2⟩ := CX.out.cs3
 go_wp2_with fail
 refine (KU.out _).mono ?_
 rintro e wv ⟨rfl, rfl⟩
 go_wp2
 go_ret
 exact ⟨rfl, HW.out⟩
theorem kHolds_sm (t : Int) (N : Nat) (hN : bitsN t = N) (q : Q) (A B : Option Addr) (c d : Nat) (w : World) (h : RdL w A (limbs q.n)) (h' : RdL w B (limbs q.d)) (hc : (limbs q.n).length ≤ c) (hc' : (limbs q.d).length ≤ d) (hn : q.n < Top) (hd : q.d < Top) (h0 : N ≠ 0) (h64 : N ≤ 64) (hu : unsB t = false) :
 Calls Tryz.prog 66 #[.agg #[.bool true, .slice A (limbs q.n).length c, .slice B (limbs q.d).length d], .int .i64 t] w (RetBB (decide (q.n ≤ 2 ^ (N - 1))) w) := by
 have RA := Lib.hid h; clear h
 have RB := Lib.hid h'; clear h'
 have LA := Lib.hid (And.intro hn hc); clear hn hc
 have LB := Lib.hid (And.intro hd hc'); clear hd hc'
 have KB := Lib.hid (fun W => kBits_is t W hN); clear hN
 have KU := Lib.hid (fun W => kUns_is t W hu); clear hu
 have z1 : ((N : Int) == 0) = false := eq_zero h0
 have z2 : ¬ (N : Int) = 0 := by omega
 have HN := Lib.hid (And.intro h0 h64); clear h64 h0
 obtain ⟨M, hM⟩ : ∃ M, N = M + 1 := ⟨N - 1, by have := HN.out.1; omega⟩
 have z3 : IntKind.i64.wrap ((N : Int) - 1) = (M : Int) := by rw [IntKind.wrap_i64]; have := HN.out.2; omega
 have HM := Lib.hid hM; clear hM
 obtain ⟨wa, hwa⟩ : ∃ wa, wa = w.alloc (.cells #[.bool true, .slice A (limbs q.n).length c, .slice B (limbs q.d).length d] 25) := ⟨_, rfl⟩
 obtain ⟨hbl, CX⟩ := kal1 hwa
 replace RA := hmR RA hbl
 replace RB := hmR RB hbl
 have HW := Lib.hid hbl; clear hbl
 replace CX := Lib.hid CX
 go_enter Tryz.func66, Tryz.ntmps66
 go_wp2_with fail
 rw [← hwa]
 clear hwa
 obtain ⟨CX0, CX1, CX2⟩ := CX.out.cs3
 refine (KB.out _).mono ?_
 rintro e w1 ⟨rfl, hbl⟩
 replace RA := hmR RA hbl
 replace RB := hmR RB hbl
 replace CX := hmB CX hbl
 replace HW := hmW HW hbl; clear hbl
 clear CX0 CX1 CX2
 obtain ⟨CX0, CX1, CX2⟩ := CX.out.cs3
 go_wp2_with fail
 refine (KU.out _).mono ?_
 rintro e wu ⟨rfl, rfl⟩
 obtain ⟨nb, hnb⟩ : ∃ nb, nbits q.n = nb := ⟨_, rfl⟩
 have HNB := Lib.hid hnb; clear hnb
 go_wp2_with fail
 refine (bits_is A c q.n nb _ RA.out LA.out.1 HNB.out).mono ?_
 rintro e w2 ⟨rfl, hbl⟩
 replace RA := hmR RA hbl
 replace RB := hmR RB hbl
 replace CX := hmB CX hbl
 replace HW := hmW HW hbl; clear hbl
 clear CX0 CX1 CX2
 obtain ⟨CX0, CX1, CX2⟩ := CX.out.cs3
 go_wp2_with fail
 refine (kOne_any _).mono ?_
 rintro e w3 ⟨vo, rfl, hno, hbl⟩
 replace RA := hmR RA hbl
 replace RB := hmR RB hbl
 replace CX := hmB CX hbl
 replace HW := hmW HW hbl; clear hbl
 clear CX0 CX1 CX2
 obtain ⟨CX0, CX1, CX2⟩ := CX.out.cs3
 have HNo := Lib.hid hno; clear hno
 obtain ⟨Ao, co, rfl, hco, hro⟩ := HNo.out.row
 have Ro := Lib.hid hro; have HCo := Lib.hid hco; clear hro hco
 obtain ⟨X, hX⟩ : ∃ X, 2 ^ M = X := ⟨_, rfl⟩
 have HX := Lib.hid (And.intro hX (show X < Top by rw [← hX]; exact pow_small (by have := HN.out.2; have := HM.out; omega))); clear hX
 go_wp2_with fail
 refine (shift_fit Ao co 1 M _ Ro.out (small_top (by decide)) (X := X) (by rw [Nat.one_mul]; exact HX.out.1) HX.out.2).mono ?_
 rintro e w4 ⟨vp, rfl, hnp, hbl⟩
 replace RA := hmR RA hbl
 replace RB := hmR RB hbl
 replace Ro := hmR Ro hbl
 replace HNo := hmN HNo hbl
 replace CX := hmB CX hbl
 replace HW := hmW HW hbl; clear hbl
 clear CX0 CX1 CX2
 obtain ⟨CX0, CX1, CX2⟩ := CX.out.cs3
 have HNp := Lib.hid hnp; clear hnp
 obtain ⟨Ap, cp, rfl, hcp, hrp⟩ := HNp.out.row
 have Rp := Lib.hid hrp; have HCp := Lib.hid hcp; clear hrp hcp
 go_wp2_with fail
 refine (cmp_num A Ap c cp q.n X _ RA.out Rp.out LA.out.1 HX.out.2).mono ?_
 rintro e w5 ⟨rfl, hbl⟩
 replace RA := hmR RA hbl
 replace RB := hmR RB hbl
 replace Ro := hmR Ro hbl
 replace HNo := hmN HNo hbl
 replace Rp := hmR Rp hbl
 replace HNp := hmN HNp hbl
 replace CX := hmB CX hbl
 replace HW := hmW HW hbl; clear hbl
 clear CX0 CX1 CX2
 obtain ⟨CX0, CX1, CX2⟩ := CX.out.cs3
 go_wp2_with fail
 refine (KU.out _).mono ?_
 rintro e wv ⟨rfl, rfl⟩
 go_wp2
 go_ret
 refine ret_bb ?_ HW.out
 rw [Bool.eq_iff_iff, decide_eq_true_iff, decide_eq_true_iff, HM.out, Nat.add_sub_cancel, HX.out.1]
 exact cmpI_le0
theorem kHolds_is {v : Bool} (s : Bool) (t : Int) (q : Q) (A B : Option Addr) (c d : Nat) (w : World) (h : RdL w A (limbs q.n)) (h' : RdL w B (limbs q.d)) (hc : (limbs q.n).length ≤ c) (hc' : (limbs q.d).length ≤ d) (hn : q.n < Top) (hd : q.d < Top) (hv : holdsB s q.n t = v) :
 Calls Tryz.prog 66 #[.agg #[.bool s, .slice A (limbs q.n).length c, .slice B (limbs q.d).length d], .int .i64 t] w (RetBB v w) := by
 have h64 := bitsN_le t
 subst hv
 unfold holdsB
 by_cases h0 : bitsN t = 0
 · rw [if_pos h0]
   exact kHolds_zero s t h0 q A B c d w h h' hc hc' hn hd
 · rw [if_neg h0]
   cases hu : unsB t
   · cases s
     · exact kHolds_sp t _ rfl q A B c d w h h' hc hc' hn hd h0 h64 hu
     · exact kHolds_sm t _ rfl q A B c d w h h' hc hc' hn hd h0 h64 hu
   · cases s
     · exact kHolds_up t _ rfl q A B c d w h h' hc hc' hn hd h0 h64 hu
     · exact kHolds_um t _ rfl q A B c d w h h' hc hc' hn hd h0 h64 hu
end
end Go.Proofs.YtmbbdjpnecjleaaGreat
