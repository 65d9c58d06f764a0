/-
  Layer 5's smallest functions: a digit, a byte of a word, a byte of a place, capitals.
-/
import Derived.Test.YtkaafakodeeidaaDoorSpec
namespace Go.Proofs.YtkaafakodeeidaaDoor
open Go.RowKit

set_option maxHeartbeats 400000 in
theorem digit_any (c : Nat) (w : World) : Calls Tryd.prog 30 #[.int .u8 (c : Int)] w (RetB (digB c) w) := by
  go_enter Tryd.func30, Tryd.ntmps30
  go_wp2
  all_goals
    go_ret
    refine ⟨ret_bool ?_, rfl⟩
    rw [Bool.eq_iff_iff]
    simp [digB]
    omega
set_option maxHeartbeats 400000 in
theorem refDigit5_any (c : Nat) (w : World) : Calls Tryd.prog 37 #[.int .u8 (c : Int)] w (RetB (digB c) w) := by
  go_enter Tryd.func37, Tryd.ntmps37
  go_wp2
  all_goals
    go_ret
    refine ⟨ret_bool ?_, rfl⟩
    rw [Bool.eq_iff_iff]
    simp [digB]
    omega
theorem digit_is {v : Bool} (c : Nat) (w : World) (h : digB c = v) : Calls Tryd.prog 30 #[.int .u8 (c : Int)] w (RetB v w) := by
  rw [← h]
  exact digit_any c w
theorem refDigit5_is {v : Bool} (c : Nat) (w : World) (h : digB c = v) : Calls Tryd.prog 37 #[.int .u8 (c : Int)] w (RetB v w) := by
  rw [← h]
  exact refDigit5_any c w
theorem letter_is {v : Bool} (c : Nat) (w : World) (h : letter (c : Int) = v) : Calls Tryd.prog 27 #[.int .u8 (c : Int)] w (RetB v w) := by
  rw [← h]
  exact letter_any c w
theorem refLetter_is {v : Bool} (c : Nat) (w : World) (h : letter (c : Int) = v) : Calls Tryd.prog 35 #[.int .u8 (c : Int)] w (RetB v w) := by
  rw [← h]
  exact refLetter_any c w
set_option maxHeartbeats 400000 in
theorem word_any (c : Nat) (w : World) : Calls Tryd.prog 29 #[.int .u8 (c : Int)] w (RetB (wordB c) w) := by
  unfold wordB
  obtain ⟨l, hl⟩ : ∃ l, letter (c : Int) = l := ⟨_, rfl⟩
  obtain ⟨d, hd⟩ : ∃ d, digB c = d := ⟨_, rfl⟩
  rw [hl, hd]
  have H := Lib.hid (And.intro hl hd); clear hl hd
  cases l
  · go_enter Tryd.func29, Tryd.ntmps29
    go_wp2_with fail
    refine (letter_is c w H.out.1).mono ?_
    rintro e w1 ⟨rfl, rfl⟩
    go_wp2_with fail
    refine (digit_is c w1 H.out.2).mono ?_
    rintro e w2 ⟨rfl, rfl⟩
    go_wp2
    go_ret
    exact ⟨rfl, rfl⟩
  · go_enter Tryd.func29, Tryd.ntmps29
    go_wp2_with fail
    refine (letter_is c w H.out.1).mono ?_
    rintro e w1 ⟨rfl, rfl⟩
    go_wp2
    go_ret
    exact ⟨rfl, rfl⟩
set_option maxHeartbeats 400000 in
theorem refWord_any (c : Nat) (w : World) : Calls Tryd.prog 49 #[.int .u8 (c : Int)] w (RetB (wordB c) w) := by
  unfold wordB
  obtain ⟨l, hl⟩ : ∃ l, letter (c : Int) = l := ⟨_, rfl⟩
  obtain ⟨d, hd⟩ : ∃ d, digB c = d := ⟨_, rfl⟩
  rw [hl, hd]
  have H := Lib.hid (And.intro hl hd); clear hl hd
  cases l
  · go_enter Tryd.func49, Tryd.ntmps49
    go_wp2_with fail
    refine (refLetter_is c w H.out.1).mono ?_
    rintro e w1 ⟨rfl, rfl⟩
    go_wp2_with fail
    refine (refDigit5_is c w1 H.out.2).mono ?_
    rintro e w2 ⟨rfl, rfl⟩
    go_wp2
    go_ret
    exact ⟨rfl, rfl⟩
  · go_enter Tryd.func49, Tryd.ntmps49
    go_wp2_with fail
    refine (refLetter_is c w H.out.1).mono ?_
    rintro e w1 ⟨rfl, rfl⟩
    go_wp2
    go_ret
    exact ⟨rfl, rfl⟩
theorem bt_none (s : ByteArray) {i : Nat} (h : ¬ i < s.size) : bt s i = 0 := by
  unfold bt
  have : s.get! i = default := by
    show s.data[i]! = default
    exact getElem!_neg s.data i h
  rw [this]
  rfl
set_option maxHeartbeats 400000 in
theorem at_any (s : ByteArray) (i : Nat) (w : World) : Calls Tryd.prog 34 #[.string s, .int .i64 (i : Int)] w (fun e w' => e = .returned (.int .u8 (bt s i : Int)) ∧ w' = w) := by
  by_cases h : i < s.size
  · have h' : (i : Int) < (s.size : Int) := by omega
    have h0 : ¬ (s.size : Int) ≤ (i : Int) := by omega
    have hb := bt_get s h
    obtain ⟨b, hbt⟩ : ∃ b, b = bt s i := ⟨_, rfl⟩
    rw [← hbt] at hb ⊢
    have HB := Lib.hid hbt; clear hbt
    go_enter Tryd.func34, Tryd.ntmps34
    go_wp2
    go_ret
    exact ⟨rfl, rfl⟩
  · have h0 : (s.size : Int) ≤ (i : Int) := by omega
    rw [bt_none s h]
    clear h
    go_enter Tryd.func34, Tryd.ntmps34
    go_wp2
    go_ret
    exact ⟨rfl, rfl⟩
set_option maxHeartbeats 400000 in
theorem upper_any (c : Nat) (w : World) (hc : c < 256) : Calls Tryd.prog 50 #[.int .u8 (c : Int)] w (fun e w' => e = .returned (.int .u8 (upB5 c : Int)) ∧ w' = w) := by
  unfold upB5
  by_cases h1 : 97 ≤ c
  · by_cases h2 : c ≤ 122
    · rw [if_pos ⟨h1, h2⟩]
      have a1 : (97 : Int) ≤ (c : Int) := by omega
      have a2 : (c : Int) ≤ 122 := by omega
      have a3 : IntKind.u8.wrap ((c : Int) - 32) = ((c - 32 : Nat) : Int) := by rw [IntKind.wrap_u8']; omega
      clear h1 h2 hc
      go_enter Tryd.func50, Tryd.ntmps50
      go_wp2
      go_ret
      exact ⟨rfl, rfl⟩
    · rw [if_neg (fun h => h2 h.2)]
      have a1 : (97 : Int) ≤ (c : Int) := by omega
      have a2 : ¬ (c : Int) ≤ 122 := by omega
      clear h1 h2 hc
      go_enter Tryd.func50, Tryd.ntmps50
      go_wp2
      go_ret
      exact ⟨rfl, rfl⟩
  · rw [if_neg (fun h => h1 h.1)]
    have a1 : ¬ (97 : Int) ≤ (c : Int) := by omega
    clear h1 hc
    go_enter Tryd.func50, Tryd.ntmps50
    go_wp2
    go_ret
    exact ⟨rfl, rfl⟩
end Go.Proofs.YtkaafakodeeidaaDoor
