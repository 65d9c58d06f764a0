/-
  Name, Public: of the program and of the reference.
-/
import Derived.Test.YtfcjliiemiahkaaLeaf
namespace Go.Proofs.Ytfcjliiemiahkaa
open Go.RowKit

def allFrom (p : Nat → Bool) (s : ByteArray) (k : Nat) : Bool := (List.range' k (s.size - k)).all p
theorem allFrom_step (p : Nat → Bool) {s : ByteArray} {k : Nat} (h : k < s.size) : allFrom p s k = (p k && allFrom p s (k + 1)) := by
  unfold allFrom
  rw [show s.size - k = (s.size - (k + 1)) + 1 by omega, List.range'_succ, List.all_cons]
theorem allFrom_end (p : Nat → Bool) {s : ByteArray} {k : Nat} (h : ¬ k < s.size) : allFrom p s k = true := by
  unfold allFrom
  rw [show s.size - k = 0 by omega]
  rfl
theorem allFrom_congr {p q : Nat → Bool} {s : ByteArray} {k : Nat} (h : ∀ j, k ≤ j → j < s.size → p j = q j) : allFrom p s k = allFrom q s k := by
  unfold allFrom
  rw [Bool.eq_iff_iff, List.all_eq_true, List.all_eq_true]
  refine forall_congr' fun j => imp_congr_right fun hj => ?_
  have := List.mem_range'_1.1 hj
  rw [h j (by omega) (by omega)]

def digit (c : Int) : Bool := decide (48 ≤ c) && decide (c ≤ 57)
def refOk (s : ByteArray) (j : Nat) : Bool := letter (bt s j : Int) || (digit (bt s j : Int) && !decide (j = 0))
def srcOk (s : ByteArray) (j : Nat) : Bool := letter (bt s j : Int) || digit (bt s j : Int)
def name (s : ByteArray) : Bool := allFrom (refOk s) s 0 && (decide (0 < s.size) && decide (s.size ≤ 20))
theorem name_src (s : ByteArray) : name s = (decide (0 < s.size) && (decide (s.size ≤ 20) && (letter (bt s 0 : Int) && allFrom (srcOk s) s 0))) := by
  unfold name
  by_cases h : 0 < s.size
  · rw [allFrom_step _ h, allFrom_step _ h, allFrom_congr (p := refOk s) (q := srcOk s) (k := 0 + 1) (fun j h1 h2 => by
      have : ¬ j = 0 := by omega
      simp [refOk, srcOk, this])]
    unfold refOk srcOk
    cases letter (bt s 0 : Int) <;> simp [h]
    exact Bool.and_comm _ _
  · simp [h]

set_option maxRecDepth 100000 in
set_option maxHeartbeats 1000000 in
theorem refName_any (s : ByteArray) (w : World) (hs : s.size ≤ 4611686018427387900) : Calls Try.prog 7 #[.string s] w (RetBD (name s) w) := by
  go_enter Try.func7, Try.ntmps7
  go_wp2
  go_loopw [3] (fun i wr => ∃ k : Nat, k ≤ s.size ∧ i = .int .i64 k ∧ allFrom (refOk s) s 0 = allFrom (refOk s) s k ∧ ∃ n, wr = w.drewN n) (fun i _ => s.size - (intOf i).toNat)
  case atStart => exact ⟨0, Nat.zero_le _, rfl, rfl, 0, rfl⟩
  case round =>
    obtain ⟨k, hk, rfl, hsp, n, rfl⟩ := hrel
    have HP := Lib.hid hsp; clear hsp
    by_cases hlt : k < s.size
    · have hlt' : (k : Int) < (s.size : Int) := by omega
      have hb := bt_get s hlt
      obtain ⟨b, hbt⟩ : ∃ b, b = bt s k := ⟨_, rfl⟩
      rw [← hbt] at hb
      have HB := Lib.hid hbt; clear hbt
      have hstep : Hid (allFrom (refOk s) s k = ((letter (b : Int) || (digit (b : Int) && !decide (k = 0))) && allFrom (refOk s) s (k + 1))) := by
        show allFrom _ _ _ = _
        rw [allFrom_step _ hlt, HB.out]
        rfl
      go_wp2_with (go_at_call 9; (with_reducible refine (refLetter_any _ _).mono ?_); rintro e w' ⟨rfl, rfl⟩)
      · have hl : letter (b : Int) = true := by assumption
        have hok : (letter (b : Int) || (digit (b : Int) && !decide (k = 0))) = true := by rw [hl]; rfl
        go_roundw
        case rel => exact ⟨k + 1, by omega, by go_num, by rw [HP.out, hstep.out, hok, Bool.true_and], n, rfl⟩
        case measure => simp [intOf]; omega
      · have hl : ¬ letter (b : Int) = true := by assumption
        have hz : ((k : Int) == 0) = true := by assumption
        have hok : (letter (b : Int) || (digit (b : Int) && !decide (k = 0))) = false := by simp at hz; simp [hl, hz]
        go_ret
        refine ⟨ret_bool ?_, n, rfl⟩
        unfold name
        rw [HP.out, hstep.out, hok]
        simp
      · have hz : ((k : Int) == 0) = false := by assumption
        have h1 : (48 : Int) ≤ (b : Int) := by assumption
        have h2 : (b : Int) ≤ 57 := by assumption
        have hok : (letter (b : Int) || (digit (b : Int) && !decide (k = 0))) = true := by
          simp at hz
          unfold digit
          rw [decide_eq_true h1, decide_eq_true h2]
          simp [hz]
        go_roundw
        case rel => exact ⟨k + 1, by omega, by go_num, by rw [HP.out, hstep.out, hok, Bool.true_and], n, rfl⟩
        case measure => simp [intOf]; omega
      · have hl : ¬ letter (b : Int) = true := by assumption
        have h2 : 57 < (b : Int) := by assumption
        have hok : (letter (b : Int) || (digit (b : Int) && !decide (k = 0))) = false := by
          unfold digit
          rw [decide_eq_false (show ¬ (b : Int) ≤ 57 by omega)]
          simp [hl]
        go_ret
        refine ⟨ret_bool ?_, n, rfl⟩
        unfold name
        rw [HP.out, hstep.out, hok]
        simp
      · have hl : letter (b : Int) = true := by assumption
        have hok : (letter (b : Int) || (digit (b : Int) && !decide (k = 0))) = true := by rw [hl]; rfl
        go_roundw
        case rel => exact ⟨k + 1, by omega, by go_num, by rw [HP.out, hstep.out, hok, Bool.true_and], n, rfl⟩
        case measure => simp [intOf]; omega
      · have hl : ¬ letter (b : Int) = true := by assumption
        have h2 : (b : Int) < 48 := by assumption
        have hok : (letter (b : Int) || (digit (b : Int) && !decide (k = 0))) = false := by
          unfold digit
          rw [decide_eq_false (show ¬ 48 ≤ (b : Int) by omega)]
          simp [hl]
        go_ret
        refine ⟨ret_bool ?_, n, rfl⟩
        unfold name
        rw [HP.out, hstep.out, hok]
        simp
    · have hall := Lib.hid (allFrom_end (refOk s) hlt)
      go_wp2
      all_goals
        go_ret
        refine ⟨ret_bool ?_, n, rfl⟩
        unfold name
        rw [HP.out, hall.out, Bool.eq_iff_iff]
        simp
        omega

set_option maxRecDepth 100000 in
set_option maxHeartbeats 1000000 in
theorem srcName_any (s : ByteArray) (w : World) (hs : s.size ≤ 4611686018427387900) : Calls Try.prog 10 #[.string s] w (RetBD (name s) w) := by
  have HS := Lib.hid (name_src s)
  by_cases h0 : 0 < s.size
  · have e0 : s.toList.isEmpty = false := by
      rw [ByteArray.toList_eq, List.isEmpty_eq_false_iff]
      intro e
      have e' : s.data.toList.length = s.size := Array.length_toList
      rw [e] at e'
      simp at e'
      omega
    have e0' : ¬ s.toList = [] := by
      intro e
      rw [e] at e0
      cases e0
    by_cases h20 : s.size ≤ 20
    · have e20 : decide (20 < (s.size : Int)) = false := decide_eq_false (by omega)
      have hb0 := bt_get s h0
      obtain ⟨b0, hbt⟩ : ∃ b, b = bt s 0 := ⟨_, rfl⟩
      rw [← hbt] at hb0
      have HB0 := Lib.hid hbt; clear hbt
      have h0' : (0 : Int) < (s.size : Int) := by omega
      cases hl0 : letter (b0 : Int)
      · go_enter Try.func10, Try.ntmps10
        go_wp2_with (go_at_call 8; (with_reducible refine (letter_any _ _).mono ?_); rintro e w' ⟨rfl, rfl⟩; rw [hl0])
        go_ret
        refine ⟨ret_bool ?_, 0, rfl⟩
        rw [HS.out, ← HB0.out, hl0]
        simp
      · have hnm : Hid (name s = allFrom (srcOk s) s 0) := by
          show _ = _
          rw [HS.out, ← HB0.out, hl0]
          simp [h0, h20]
        clear HS
        go_enter Try.func10, Try.ntmps10
        go_wp2_with (go_at_call 8; (with_reducible refine (letter_any _ _).mono ?_); rintro e w' ⟨rfl, rfl⟩; rw [hl0])
        go_loopw [3, 19] (fun _ i wr => ∃ k : Nat, k ≤ s.size ∧ i = .int .i64 k ∧ allFrom (srcOk s) s 0 = allFrom (srcOk s) s k ∧ ∃ n, wr = w'.drewN n) (fun _ i _ => s.size - (intOf i).toNat)
        case atStart => exact ⟨0, Nat.zero_le _, rfl, rfl, 0, rfl⟩
        case round =>
          obtain ⟨k, hk, rfl, hsp, n, rfl⟩ := hrel
          have HP := Lib.hid hsp; clear hsp
          by_cases hlt : k < s.size
          · have hlt' : (k : Int) < (s.size : Int) := by omega
            have hb := bt_get s hlt
            obtain ⟨b, hbt⟩ : ∃ b, b = bt s k := ⟨_, rfl⟩
            rw [← hbt] at hb
            have HB := Lib.hid hbt; clear hbt
            have hstep : Hid (allFrom (srcOk s) s k = ((letter (b : Int) || digit (b : Int)) && allFrom (srcOk s) s (k + 1))) := by
              show allFrom _ _ _ = _
              rw [allFrom_step _ hlt, HB.out]
              rfl
            clear hb0
            go_wp2_with (go_at_call 8; (with_reducible refine (letter_any _ _).mono ?_); rintro e w' ⟨rfl, rfl⟩)
            · have hl : letter (b : Int) = true := by assumption
              have hok : (letter (b : Int) || digit (b : Int)) = true := by rw [hl]; rfl
              go_roundw
              case rel => exact ⟨k + 1, by omega, by go_num, by rw [HP.out, hstep.out, hok, Bool.true_and], n, rfl⟩
              case measure => simp [intOf]; omega
            · have hl : ¬ letter (b : Int) = true := by assumption
              have h2 : (b : Int) < 48 ∨ 57 < (b : Int) := by assumption
              have hok : (letter (b : Int) || digit (b : Int)) = false := by
                unfold digit
                simp [hl]
                omega
              go_ret
              refine ⟨ret_bool ?_, n, rfl⟩
              rw [hnm.out, HP.out, hstep.out, hok]
              simp
            · have h2 : (48 : Int) ≤ (b : Int) ∧ (b : Int) ≤ 57 := by assumption
              have hok : (letter (b : Int) || digit (b : Int)) = true := by
                unfold digit
                rw [decide_eq_true h2.1, decide_eq_true h2.2]
                simp
              go_roundw
              case rel => exact ⟨k + 1, by omega, by go_num, by rw [HP.out, hstep.out, hok, Bool.true_and], n, rfl⟩
              case measure => simp [intOf]; omega
            · have hl : ¬ letter (b : Int) = true := by assumption
              have h2 : (b : Int) < 48 := by assumption
              have hok : (letter (b : Int) || digit (b : Int)) = false := by
                unfold digit
                simp [hl]
                omega
              go_ret
              refine ⟨ret_bool ?_, n, rfl⟩
              rw [hnm.out, HP.out, hstep.out, hok]
              simp
          · have hall := Lib.hid (allFrom_end (srcOk s) hlt)
            go_wp2
            go_ret
            refine ⟨ret_bool ?_, n, rfl⟩
            rw [hnm.out, HP.out, hall.out]
    · have e20 : decide (20 < (s.size : Int)) = true := decide_eq_true (by omega)
      go_enter Try.func10, Try.ntmps10
      go_wp2
      go_ret
      refine ⟨ret_bool ?_, 0, rfl⟩
      rw [HS.out]
      simp [h20]
  · have e0 : s.toList.isEmpty = true := by
      rw [ByteArray.toList_eq, List.isEmpty_iff]
      have e' : s.data.toList.length = s.size := Array.length_toList
      exact List.length_eq_zero_iff.1 (by omega)
    have e0' : s.toList = [] := List.isEmpty_iff.1 e0
    go_enter Try.func10, Try.ntmps10
    go_wp2
    go_ret
    refine ⟨ret_bool ?_, 0, rfl⟩
    rw [HS.out]
    simp [h0]

/-- Is the text a name that begins with a great letter? -/
def pubB (s : ByteArray) : Bool := name s && (decide (65 ≤ bt s 0) && decide (bt s 0 ≤ 90))
theorem name_size {s : ByteArray} (h : name s = true) : 0 < s.size := by
  unfold name at h
  simp at h
  exact h.2.1

set_option maxRecDepth 100000 in
set_option maxHeartbeats 1000000 in
theorem public_any (s : ByteArray) (w : World) (hs : s.size ≤ 4611686018427387900) : Calls Try.prog 11 #[.string s] w (RetBD (pubB s) w) := by
  cases hn : name s
  · go_enter Try.func11, Try.ntmps11
    go_wp2_with (go_at_call 10; (with_reducible refine (srcName_any _ _ ?_).mono ?_); exact hs; rintro e w' ⟨rfl, n, rfl⟩; rw [hn])
    go_ret
    refine ⟨ret_bool ?_, _, rfl⟩
    unfold pubB
    rw [hn]
    rfl
  · have h0 := name_size hn
    have h0' : (0 : Int) < (s.size : Int) := by omega
    have hb := bt_get s h0
    obtain ⟨b, hbt⟩ : ∃ b, b = bt s 0 := ⟨_, rfl⟩
    rw [← hbt] at hb
    have HB := Lib.hid hbt; clear hbt
    go_enter Try.func11, Try.ntmps11
    go_wp2_with (go_at_call 10; (with_reducible refine (srcName_any _ _ ?_).mono ?_); exact hs; rintro e w' ⟨rfl, n, rfl⟩; rw [hn])
    all_goals
      go_ret
      refine ⟨ret_bool ?_, _, rfl⟩
      unfold pubB
      rw [hn, ← HB.out, Bool.eq_iff_iff]
      simp
      omega
end Go.Proofs.Ytfcjliiemiahkaa
