/-
  Layer 5's runs: while, at each of its three functions; walked.
-/
import Derived.Test.YtkaafakodeeidaaDoorKey
namespace Go.Proofs.YtkaafakodeeidaaDoor
open Go.RowKit

theorem word_is {v : Bool} (c : Nat) (w : World) (h : wordB c = v) : Calls Tryd.prog 29 #[.int .u8 (c : Int)] w (RetB v w) := by
  rw [← h]
  exact word_any c w
set_option maxHeartbeats 400000 in
theorem clo_word {v : Bool} (i : Int) (c : Nat) (w : World) (h : wordB c = v) : Calls Tryd.prog 28 #[.int .i64 i, .int .u8 (c : Int)] w (RetB v w) := by
  have H := Lib.hid h; clear h
  go_enter Tryd.func28, Tryd.ntmps28
  go_wp2_with fail
  refine (word_is c w H.out).mono ?_
  rintro e w1 ⟨rfl, rfl⟩
  go_wp2
  go_ret
  exact ⟨rfl, rfl⟩
set_option maxHeartbeats 400000 in
theorem clo_line {v : Bool} (i : Int) (c : Nat) (w : World) (h : decide (c ≠ 10) = v) : Calls Tryd.prog 24 #[.int .i64 i, .int .u8 (c : Int)] w (RetB v w) := by
  by_cases hc : c = 10
  · subst hc
    rw [decide_eq_false (by decide)] at h
    subst h
    go_enter Tryd.func24, Tryd.ntmps24
    go_wp2
    go_ret
    exact ⟨rfl, rfl⟩
  · rw [decide_eq_true hc] at h
    subst h
    have q1 : ((c : Int) != 10) = true := by simp only [bne_iff_ne, ne_eq]; omega
    clear hc
    go_enter Tryd.func24, Tryd.ntmps24
    go_wp2
    go_ret
    exact ⟨rfl, rfl⟩
/-- What goes on a number, by its bytes. -/
def numC (i c prev : Nat) (hex : Bool) : Bool := wordB c || decide (c = 46) || ((decide (c = 43) || decide (c = 45)) && decide (0 < i) && (decide (prev = 101) || decide (prev = 69)) && !hex)
def wordP (s : ByteArray) (j : Nat) : Bool := wordB (bt s j)
def lineP (s : ByteArray) (j : Nat) : Bool := decide (bt s j ≠ 10)
theorem numP_is (s : ByteArray) (j : Nat) : numP s j = numC j (bt s j) (bt s (j - 1)) (hexB s) := rfl
theorem word_lit (c : Nat) (C : Int) (hC : C = (c : Int)) (w : World) {v : Bool} (h : wordB c = v) : Calls Tryd.prog 29 #[.int .u8 C] w (RetB v w) := by
  subst hC
  exact word_is c w h
set_option maxHeartbeats 2000000 in
theorem clo_num {v : Bool} (s : ByteArray) (i c g h : Nat) (w : World) (hsz : s.size ≤ 100000) (hi : i < s.size) (hs1 : w.cell? ⟨g, 0, none⟩ = some (.string s)) (hs2 : w.cell? ⟨h, 0, none⟩ = some (.bool (hexB s))) (hv : numC i c (bt s (i - 1)) (hexB s) = v) :
    Calls Tryd.prog 46 #[.int .i64 (i : Int), .int .u8 (c : Int), .pointer (some ⟨g, 0, none⟩), .pointer (some ⟨h, 0, none⟩)] w (RetB v w) := by
  obtain ⟨x, hx⟩ : ∃ x, hexB s = x := ⟨_, rfl⟩
  rw [hx] at hs2 hv
  obtain ⟨d, hd⟩ : ∃ d, wordB c = d := ⟨_, rfl⟩
  have HD := Lib.hid hd
  have hp := bt_get s (i := i - 1) (by omega)
  obtain ⟨p, hpp⟩ : ∃ p, bt s (i - 1) = p := ⟨_, rfl⟩
  rw [hpp] at hp hv
  subst hv
  unfold numC
  rw [hd]
  clear hd hx hpp
  by_cases h0 : 0 < i
  · have a1 : (0 : Int) < (i : Int) := by omega
    have a2 : IntKind.i64.wrap ((i : Int) - 1) = ((i - 1 : Nat) : Int) := by rw [IntKind.wrap_i64]; omega
    have a3 : ((i - 1 : Nat) : Int) < (s.size : Int) := by omega
    by_cases h43 : c = 43
    · subst h43
      obtain rfl : d = false := by rw [← HD.out]; decide
      by_cases p101 : p = 101
      · subst p101
        go_enter Tryd.func46, Tryd.ntmps46
        go_wp2_with fail
        refine (word_lit 43 43 rfl _ (v := false) (by decide)).mono ?_
        rintro e w1 ⟨rfl, rfl⟩
        go_wp2
        go_ret
        exact ⟨by simp [h0], rfl⟩
      by_cases p69 : p = 69
      · subst p69
        go_enter Tryd.func46, Tryd.ntmps46
        go_wp2_with fail
        refine (word_lit 43 43 rfl _ (v := false) (by decide)).mono ?_
        rintro e w1 ⟨rfl, rfl⟩
        go_wp2
        go_ret
        exact ⟨by simp [h0], rfl⟩
      have b1 : ¬ (p : Int) = 101 := by omega
      have b2 : ¬ (p : Int) = 69 := by omega
      go_enter Tryd.func46, Tryd.ntmps46
      go_wp2_with fail
      refine (word_lit 43 43 rfl _ (v := false) (by decide)).mono ?_
      rintro e w1 ⟨rfl, rfl⟩
      go_wp2
      go_ret
      exact ⟨by simp [h0, p101, p69], rfl⟩
    by_cases h45 : c = 45
    · subst h45
      obtain rfl : d = false := by rw [← HD.out]; decide
      by_cases p101 : p = 101
      · subst p101
        go_enter Tryd.func46, Tryd.ntmps46
        go_wp2_with fail
        refine (word_lit 45 45 rfl _ (v := false) (by decide)).mono ?_
        rintro e w1 ⟨rfl, rfl⟩
        go_wp2
        go_ret
        exact ⟨by simp [h0], rfl⟩
      by_cases p69 : p = 69
      · subst p69
        go_enter Tryd.func46, Tryd.ntmps46
        go_wp2_with fail
        refine (word_lit 45 45 rfl _ (v := false) (by decide)).mono ?_
        rintro e w1 ⟨rfl, rfl⟩
        go_wp2
        go_ret
        exact ⟨by simp [h0], rfl⟩
      have b1 : ¬ (p : Int) = 101 := by omega
      have b2 : ¬ (p : Int) = 69 := by omega
      go_enter Tryd.func46, Tryd.ntmps46
      go_wp2_with fail
      refine (word_lit 45 45 rfl _ (v := false) (by decide)).mono ?_
      rintro e w1 ⟨rfl, rfl⟩
      go_wp2
      go_ret
      exact ⟨by simp [h0, p101, p69], rfl⟩
    have c1 : ¬ (c : Int) = 43 := by omega
    have c2 : ¬ (c : Int) = 45 := by omega
    cases d
    · by_cases h46 : c = 46
      · have c3 : (c : Int) = 46 := by omega
        subst h46
        go_enter Tryd.func46, Tryd.ntmps46
        go_wp2_with fail
        refine (word_lit 46 46 rfl _ (v := false) (by decide)).mono ?_
        rintro e w1 ⟨rfl, rfl⟩
        go_wp2
        go_ret
        exact ⟨by simp, rfl⟩
      · have c3 : ¬ (c : Int) = 46 := by omega
        go_enter Tryd.func46, Tryd.ntmps46
        go_wp2_with fail
        refine (word_is c _ HD.out).mono ?_
        rintro e w1 ⟨rfl, rfl⟩
        go_wp2
        go_ret
        exact ⟨by simp [h43, h45, h46, c3], rfl⟩
    · go_enter Tryd.func46, Tryd.ntmps46
      go_wp2_with fail
      refine (word_is c _ HD.out).mono ?_
      rintro e w1 ⟨rfl, rfl⟩
      go_wp2
      go_ret
      exact ⟨by simp, rfl⟩
  · have a1 : ¬ (0 : Int) < (i : Int) := by omega
    by_cases h43 : c = 43
    · subst h43
      obtain rfl : d = false := by rw [← HD.out]; decide
      go_enter Tryd.func46, Tryd.ntmps46
      go_wp2_with fail
      refine (word_lit 43 43 rfl _ (v := false) (by decide)).mono ?_
      rintro e w1 ⟨rfl, rfl⟩
      go_wp2
      go_ret
      exact ⟨by simp [h0], rfl⟩
    by_cases h45 : c = 45
    · subst h45
      obtain rfl : d = false := by rw [← HD.out]; decide
      go_enter Tryd.func46, Tryd.ntmps46
      go_wp2_with fail
      refine (word_lit 45 45 rfl _ (v := false) (by decide)).mono ?_
      rintro e w1 ⟨rfl, rfl⟩
      go_wp2
      go_ret
      exact ⟨by simp [h0], rfl⟩
    have c1 : ¬ (c : Int) = 43 := by omega
    have c2 : ¬ (c : Int) = 45 := by omega
    cases d
    · by_cases h46 : c = 46
      · have c3 : (c : Int) = 46 := by omega
        subst h46
        go_enter Tryd.func46, Tryd.ntmps46
        go_wp2_with fail
        refine (word_lit 46 46 rfl _ (v := false) (by decide)).mono ?_
        rintro e w1 ⟨rfl, rfl⟩
        go_wp2
        go_ret
        exact ⟨by simp, rfl⟩
      · have c3 : ¬ (c : Int) = 46 := by omega
        go_enter Tryd.func46, Tryd.ntmps46
        go_wp2_with fail
        refine (word_is c _ HD.out).mono ?_
        rintro e w1 ⟨rfl, rfl⟩
        go_wp2
        go_ret
        exact ⟨by simp [h43, h45, h46, c3], rfl⟩
    · go_enter Tryd.func46, Tryd.ntmps46
      go_wp2_with fail
      refine (word_is c _ HD.out).mono ?_
      rintro e w1 ⟨rfl, rfl⟩
      go_wp2
      go_ret
      exact ⟨by simp, rfl⟩
set_option maxHeartbeats 1000000 in
theorem while_word (s : ByteArray) (w : World) (hs : s.size ≤ 100000) : Calls Tryd.prog 23 #[.string s, .func (.func 28) #[] #[]] w (RetI (run (wordP s) s.size 0 : Nat) w) := by
  go_enter Tryd.func23, Tryd.ntmps23
  go_wp2
  go_loopw [5] (fun iv wr => ∃ i : Nat, iv = .int .i64 (i : Int) ∧ i ≤ s.size ∧ wr = w ∧ run (wordP s) s.size i = run (wordP s) s.size 0) (fun iv _ => s.size - (intOf iv).toNat)
  case atStart => exact ⟨0, rfl, Nat.zero_le _, rfl, rfl⟩
  case round =>
    obtain ⟨i, rfl, hi, rfl, hr⟩ := hrel
    have HR := Lib.hid hr; clear hr
    by_cases hlt : i < s.size
    · have hlt' : (i : Int) < (s.size : Int) := by omega
      have hb := bt_get s hlt
      obtain ⟨b, hbt⟩ : ∃ b, bt s i = b := ⟨_, rfl⟩
      rw [hbt] at hb
      obtain ⟨v, hv⟩ : ∃ v, (wordP s) i = v := ⟨_, rfl⟩
      have HP := Lib.hid (show wordB b = v by rw [← hbt]; exact hv)
      have HV := Lib.hid hv; clear hv
      have HB := Lib.hid hbt; clear hbt
      go_wp2_with fail
      refine (clo_word (i : Int) b _ HP.out).mono ?_
      rintro e w1 ⟨rfl, rfl⟩
      cases v
      · go_wp2
        go_ret
        exact ⟨by rw [← HR.out, run_not HV.out]; rfl, rfl⟩
      · go_wp2
        go_roundw
        case rel => exact ⟨i + 1, by go_num, hlt, by first | rfl | trivial, by rw [← HR.out, run_step hlt HV.out]⟩
        case measure => simp [intOf]; omega
    · have hlt' : ¬ (i : Int) < (s.size : Int) := by omega
      go_wp2
      go_ret
      exact ⟨by rw [← HR.out, run_out hlt]; rfl, rfl⟩
set_option maxHeartbeats 1000000 in
theorem while_line (s : ByteArray) (w : World) (hs : s.size ≤ 100000) : Calls Tryd.prog 23 #[.string s, .func (.func 24) #[] #[]] w (RetI (run (lineP s) s.size 0 : Nat) w) := by
  go_enter Tryd.func23, Tryd.ntmps23
  go_wp2
  go_loopw [5] (fun iv wr => ∃ i : Nat, iv = .int .i64 (i : Int) ∧ i ≤ s.size ∧ wr = w ∧ run (lineP s) s.size i = run (lineP s) s.size 0) (fun iv _ => s.size - (intOf iv).toNat)
  case atStart => exact ⟨0, rfl, Nat.zero_le _, rfl, rfl⟩
  case round =>
    obtain ⟨i, rfl, hi, rfl, hr⟩ := hrel
    have HR := Lib.hid hr; clear hr
    by_cases hlt : i < s.size
    · have hlt' : (i : Int) < (s.size : Int) := by omega
      have hb := bt_get s hlt
      obtain ⟨b, hbt⟩ : ∃ b, bt s i = b := ⟨_, rfl⟩
      rw [hbt] at hb
      obtain ⟨v, hv⟩ : ∃ v, (lineP s) i = v := ⟨_, rfl⟩
      have HP := Lib.hid (show decide (b ≠ 10) = v by rw [← hbt]; exact hv)
      have HV := Lib.hid hv; clear hv
      have HB := Lib.hid hbt; clear hbt
      go_wp2_with fail
      refine (clo_line (i : Int) b _ HP.out).mono ?_
      rintro e w1 ⟨rfl, rfl⟩
      cases v
      · go_wp2
        go_ret
        exact ⟨by rw [← HR.out, run_not HV.out]; rfl, rfl⟩
      · go_wp2
        go_roundw
        case rel => exact ⟨i + 1, by go_num, hlt, by first | rfl | trivial, by rw [← HR.out, run_step hlt HV.out]⟩
        case measure => simp [intOf]; omega
    · have hlt' : ¬ (i : Int) < (s.size : Int) := by omega
      go_wp2
      go_ret
      exact ⟨by rw [← HR.out, run_out hlt]; rfl, rfl⟩
set_option maxHeartbeats 1000000 in
theorem while_num (s : ByteArray) (w : World) (hs : s.size ≤ 100000) (g h : Nat) (hs1 : w.cell? ⟨g, 0, none⟩ = some (.string s)) (hs2 : w.cell? ⟨h, 0, none⟩ = some (.bool (hexB s))) : Calls Tryd.prog 23 #[.string s, .func (.func 46) #[] #[.pointer (some ⟨g, 0, none⟩), .pointer (some ⟨h, 0, none⟩)]] w (RetI (run (numP s) s.size 0 : Nat) w) := by
  have HG := Lib.hid (And.intro hs1 hs2); clear hs1 hs2
  go_enter Tryd.func23, Tryd.ntmps23
  go_wp2
  go_loopw [5] (fun iv wr => ∃ i : Nat, iv = .int .i64 (i : Int) ∧ i ≤ s.size ∧ wr = w ∧ run (numP s) s.size i = run (numP s) s.size 0) (fun iv _ => s.size - (intOf iv).toNat)
  case atStart => exact ⟨0, rfl, Nat.zero_le _, rfl, rfl⟩
  case round =>
    obtain ⟨i, rfl, hi, rfl, hr⟩ := hrel
    have HR := Lib.hid hr; clear hr
    by_cases hlt : i < s.size
    · have hlt' : (i : Int) < (s.size : Int) := by omega
      have hb := bt_get s hlt
      obtain ⟨b, hbt⟩ : ∃ b, bt s i = b := ⟨_, rfl⟩
      rw [hbt] at hb
      obtain ⟨v, hv⟩ : ∃ v, (numP s) i = v := ⟨_, rfl⟩
      have HP := Lib.hid (show numC i b (bt s (i - 1)) (hexB s) = v by rw [← hbt]; exact hv)
      have HV := Lib.hid hv; clear hv
      have HB := Lib.hid hbt; clear hbt
      go_wp2_with fail
      refine (clo_num s i b g h _ hs hlt HG.out.1 HG.out.2 HP.out).mono ?_
      rintro e w1 ⟨rfl, rfl⟩
      cases v
      · go_wp2
        go_ret
        exact ⟨by rw [← HR.out, run_not HV.out]; rfl, rfl⟩
      · go_wp2
        go_roundw
        case rel => exact ⟨i + 1, by go_num, hlt, by first | rfl | trivial, by rw [← HR.out, run_step hlt HV.out]⟩
        case measure => simp [intOf]; omega
    · have hlt' : ¬ (i : Int) < (s.size : Int) := by omega
      go_wp2
      go_ret
      exact ⟨by rw [← HR.out, run_out hlt]; rfl, rfl⟩
end Go.Proofs.YtkaafakodeeidaaDoor
