/-
  The small functions of layer 4 and its reference: Letter, tail.
-/
import Derived.Test.YtkaafakodeeidaaDoorRows
import Derived.Test.YtkaafakodeeidaaDoorLib
namespace Go.Proofs.YtkaafakodeeidaaDoor
open Go.RowKit

def RetBD (b : Bool) (w : World) (e : Ending) (w' : World) : Prop := e = .returned (.bool b) ∧ ∃ n, w' = w.drewN n
def RetB (b : Bool) (w : World) (e : Ending) (w' : World) : Prop := e = .returned (.bool b) ∧ w' = w
def RetI (i : Int) (w : World) (e : Ending) (w' : World) : Prop := e = .returned (.int .i64 i) ∧ w' = w
def RetID (i : Int) (w : World) (e : Ending) (w' : World) : Prop := e = .returned (.int .i64 i) ∧ ∃ n, w' = w.drewN n

/-- May the byte begin a name? -/
def letter (c : Int) : Bool := (decide (97 ≤ c) && decide (c ≤ 122)) || (decide (65 ≤ c) && decide (c ≤ 90)) || decide (c = 95)

set_option maxHeartbeats 400000 in
theorem letter_any (c : Int) (w : World) : Calls Tryd.prog 27 #[.int .u8 c] w (RetB (letter c) w) := by
  go_enter Tryd.func27, Tryd.ntmps27
  go_wp2
  all_goals
    go_ret
    refine ⟨ret_bool ?_, rfl⟩
    rw [Bool.eq_iff_iff]
    simp [letter]
    omega
set_option maxHeartbeats 400000 in
theorem refLetter_any (c : Int) (w : World) : Calls Tryd.prog 35 #[.int .u8 c] w (RetB (letter c) w) := by
  go_enter Tryd.func35, Tryd.ntmps35
  go_wp2
  all_goals
    go_ret
    refine ⟨ret_bool ?_, rfl⟩
    rw [Bool.eq_iff_iff]
    simp [letter]
    omega

/-- Byte i; 0 behind the end. -/
def bt (s : ByteArray) (i : Nat) : Nat := (s.get! i).toNat
theorem bt_get (s : ByteArray) {i : Nat} (h : i < s.size) : (s[i]'h).toNat = bt s i := by
  unfold bt
  have : s.get! i = s[i]'h := by
    show s.data[i]! = s.data[i]
    exact getElem!_pos s.data i h
  rw [this]
theorem bt_lt (s : ByteArray) (i : Nat) : bt s i < 256 := UInt8.toNat_lt _

/-- Is byte i one behind the first of a letter? -/
def tailB (s : ByteArray) (i : Nat) : Bool := decide (i < s.size) && (decide (128 ≤ bt s i) && decide (bt s i ≤ 191))

set_option maxHeartbeats 400000 in
theorem tail_any (s : ByteArray) (j : Int) (w : World) (h0 : 0 ≤ j) : Calls Tryd.prog 48 #[.string s, .int .i64 j] w (RetB (tailB s j.toNat) w) := by
  obtain ⟨i, rfl⟩ := Int.eq_ofNat_of_zero_le h0
  rw [Int.toNat_natCast]
  by_cases h : i < s.size
  · have h' : (i : Int) < (s.size : Int) := by omega
    have hb := bt_get s h
    obtain ⟨b, hbt⟩ : ∃ b, b = bt s i := ⟨_, rfl⟩
    rw [← hbt] at hb
    have HB := Lib.hid hbt; clear hbt
    go_enter Tryd.func48, Tryd.ntmps48
    go_wp2
    all_goals
      go_ret
      refine ⟨ret_bool ?_, rfl⟩
      rw [Bool.eq_iff_iff]
      simp [tailB, ← HB.out]
      omega
  · have h' : ¬ (i : Int) < (s.size : Int) := by omega
    go_enter Tryd.func48, Tryd.ntmps48
    go_wp2
    all_goals
      go_ret
      refine ⟨ret_bool ?_, rfl⟩
      simp [tailB, h]
end Go.Proofs.YtkaafakodeeidaaDoor
