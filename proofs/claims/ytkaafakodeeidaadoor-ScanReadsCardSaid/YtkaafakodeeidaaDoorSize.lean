/-
  The reference's Size.
-/
import Derived.Test.YtkaafakodeeidaaDoorLeaf
namespace Go.Proofs.YtkaafakodeeidaaDoor
open Go.RowKit

/-- How many bytes the letter at i has; 0: there is none. -/
def sizeAt (s : ByteArray) (i : Nat) : Nat :=
  if bt s i < 128 then 1
  else if 194 ≤ bt s i ∧ bt s i ≤ 223 ∧ tailB s (i + 1) = true then 2
  else if 224 ≤ bt s i ∧ bt s i ≤ 239 ∧ tailB s (i + 1) = true ∧ tailB s (i + 2) = true then
    (if (bt s i = 224 ∧ bt s (i + 1) < 160) ∨ (bt s i = 237 ∧ 159 < bt s (i + 1)) then 0 else 3)
  else if 240 ≤ bt s i ∧ bt s i ≤ 244 ∧ tailB s (i + 1) = true ∧ tailB s (i + 2) = true ∧ tailB s (i + 3) = true then
    (if (bt s i = 240 ∧ bt s (i + 1) < 144) ∨ (bt s i = 244 ∧ 143 < bt s (i + 1)) then 0 else 4)
  else 0

theorem tail1 (s : ByteArray) (i : Nat) (b : Bool) (h : tailB s (i + 1) = b) (w : World) : Calls Tryd.prog 48 #[.string s, .int .i64 ((i : Int) + 1)] w fun e w' => e = .returned (.bool b) ∧ w' = w := by
  have := tail_any s ((i : Int) + 1) w (by omega)
  rw [show ((i : Int) + 1).toNat = i + 1 by omega, h] at this
  exact this
theorem tail2 (s : ByteArray) (i : Nat) (b : Bool) (h : tailB s (i + 2) = b) (w : World) : Calls Tryd.prog 48 #[.string s, .int .i64 ((i : Int) + 2)] w fun e w' => e = .returned (.bool b) ∧ w' = w := by
  have := tail_any s ((i : Int) + 2) w (by omega)
  rw [show ((i : Int) + 2).toNat = i + 2 by omega, h] at this
  exact this
theorem tail3 (s : ByteArray) (i : Nat) (b : Bool) (h : tailB s (i + 3) = b) (w : World) : Calls Tryd.prog 48 #[.string s, .int .i64 ((i : Int) + 3)] w fun e w' => e = .returned (.bool b) ∧ w' = w := by
  have := tail_any s ((i : Int) + 3) w (by omega)
  rw [show ((i : Int) + 3).toNat = i + 3 by omega, h] at this
  exact this

set_option maxRecDepth 100000 in
set_option maxHeartbeats 2000000 in
theorem size_1 (s : ByteArray) (i : Nat) (w : World) (c : Nat) (hi : i < s.size) (_hs : s.size ≤ 4611686018427387904) (hb : (s[i]'hi).toNat = c) (h : c < 128) : Calls Tryd.prog 33 #[.string s, .int .i64 i] w (RetID 1 w) := by
  have hi' : (i : Int) < (s.size : Int) := by omega
  go_enter Tryd.func33, Tryd.ntmps33
  go_wp2
  go_ret
  exact ⟨rfl, 0, rfl⟩

set_option maxRecDepth 100000 in
set_option maxHeartbeats 2000000 in
theorem size_2 (s : ByteArray) (i : Nat) (w : World) (c : Nat) (hi : i < s.size) (_hs : s.size ≤ 4611686018427387904) (hb : (s[i]'hi).toNat = c) (h : 128 ≤ c) (h' : c < 194) : Calls Tryd.prog 33 #[.string s, .int .i64 i] w (RetID 0 w) := by
  have hi' : (i : Int) < (s.size : Int) := by omega
  have d1 : decide ((194 : Int) ≤ (c : Int)) = false := decide_eq_false (by omega)
  have d2 : decide ((224 : Int) ≤ (c : Int)) = false := decide_eq_false (by omega)
  have d3 : decide ((240 : Int) ≤ (c : Int)) = false := decide_eq_false (by omega)
  go_enter Tryd.func33, Tryd.ntmps33
  go_wp2
  go_ret
  exact ⟨rfl, 0, rfl⟩

set_option maxRecDepth 100000 in
set_option maxHeartbeats 2000000 in
theorem size_3t (s : ByteArray) (i : Nat) (w : World) (c : Nat) (hi : i < s.size) (hs : s.size ≤ 4611686018427387904) (hb : (s[i]'hi).toNat = c) (h : 194 ≤ c) (h' : c ≤ 223) (t1 : tailB s (i + 1) = true) : Calls Tryd.prog 33 #[.string s, .int .i64 i] w (RetID 2 w) := by
  have hi' : (i : Int) < (s.size : Int) := by omega
  have d1 : decide ((194 : Int) ≤ (c : Int)) = true := decide_eq_true (by omega)
  have d4 : decide ((c : Int) ≤ 223) = true := decide_eq_true (by omega)
  have d2 : decide ((224 : Int) ≤ (c : Int)) = false := decide_eq_false (by omega)
  have d3 : decide ((240 : Int) ≤ (c : Int)) = false := decide_eq_false (by omega)
  go_enter Tryd.func33, Tryd.ntmps33
  go_wp2_with (go_at_call 48; (with_reducible refine (tail1 s i _ t1 _).mono ?_); rintro e w' ⟨rfl, rfl⟩)
  go_ret
  exact ⟨rfl, 0, rfl⟩

set_option maxRecDepth 100000 in
set_option maxHeartbeats 2000000 in
theorem size_3f (s : ByteArray) (i : Nat) (w : World) (c : Nat) (hi : i < s.size) (hs : s.size ≤ 4611686018427387904) (hb : (s[i]'hi).toNat = c) (h : 194 ≤ c) (h' : c ≤ 223) (t1 : tailB s (i + 1) = false) : Calls Tryd.prog 33 #[.string s, .int .i64 i] w (RetID 0 w) := by
  have hi' : (i : Int) < (s.size : Int) := by omega
  have d1 : decide ((194 : Int) ≤ (c : Int)) = true := decide_eq_true (by omega)
  have d4 : decide ((c : Int) ≤ 223) = true := decide_eq_true (by omega)
  have d2 : decide ((224 : Int) ≤ (c : Int)) = false := decide_eq_false (by omega)
  have d3 : decide ((240 : Int) ≤ (c : Int)) = false := decide_eq_false (by omega)
  go_enter Tryd.func33, Tryd.ntmps33
  go_wp2_with (go_at_call 48; (with_reducible refine (tail1 s i _ t1 _).mono ?_); rintro e w' ⟨rfl, rfl⟩)
  go_ret
  exact ⟨rfl, 0, rfl⟩

set_option maxRecDepth 100000 in
set_option maxHeartbeats 2000000 in
theorem size_6 (s : ByteArray) (i : Nat) (w : World) (c : Nat) (hi : i < s.size) (_hs : s.size ≤ 4611686018427387904) (hb : (s[i]'hi).toNat = c) (h : 244 < c) : Calls Tryd.prog 33 #[.string s, .int .i64 i] w (RetID 0 w) := by
  have hi' : (i : Int) < (s.size : Int) := by omega
  have d1 : decide ((194 : Int) ≤ (c : Int)) = true := decide_eq_true (by omega)
  have d4 : decide ((c : Int) ≤ 223) = false := decide_eq_false (by omega)
  have d2 : decide ((224 : Int) ≤ (c : Int)) = true := decide_eq_true (by omega)
  have d5 : decide ((c : Int) ≤ 239) = false := decide_eq_false (by omega)
  have d3 : decide ((240 : Int) ≤ (c : Int)) = true := decide_eq_true (by omega)
  have d6 : decide ((c : Int) ≤ 244) = false := decide_eq_false (by omega)
  go_enter Tryd.func33, Tryd.ntmps33
  go_wp2
  go_ret
  exact ⟨rfl, 0, rfl⟩

set_option maxRecDepth 100000 in
set_option maxHeartbeats 2000000 in
theorem size_4f1 (s : ByteArray) (i : Nat) (w : World) (c : Nat) (hi : i < s.size) (hs : s.size ≤ 4611686018427387904) (hb : (s[i]'hi).toNat = c) (h : 224 ≤ c) (h' : c ≤ 239) (t1 : tailB s (i + 1) = false) : Calls Tryd.prog 33 #[.string s, .int .i64 i] w (RetID 0 w) := by
  have hi' : (i : Int) < (s.size : Int) := by omega
  have d1 : decide ((194 : Int) ≤ (c : Int)) = true := decide_eq_true (by omega)
  have d4 : decide ((c : Int) ≤ 223) = false := decide_eq_false (by omega)
  have d2 : decide ((224 : Int) ≤ (c : Int)) = true := decide_eq_true (by omega)
  have d5 : decide ((c : Int) ≤ 239) = true := decide_eq_true (by omega)
  have d3 : decide ((240 : Int) ≤ (c : Int)) = false := decide_eq_false (by omega)
  go_enter Tryd.func33, Tryd.ntmps33
  go_wp2_with (go_at_call 48; (with_reducible refine (tail1 s i _ t1 _).mono ?_); rintro e w' ⟨rfl, rfl⟩)
  go_ret
  exact ⟨rfl, 0, rfl⟩

set_option maxRecDepth 100000 in
set_option maxHeartbeats 2000000 in
theorem size_4f2 (s : ByteArray) (i : Nat) (w : World) (c : Nat) (hi : i < s.size) (hs : s.size ≤ 4611686018427387904) (hb : (s[i]'hi).toNat = c) (h : 224 ≤ c) (h' : c ≤ 239) (t1 : tailB s (i + 1) = true) (t2 : tailB s (i + 2) = false) : Calls Tryd.prog 33 #[.string s, .int .i64 i] w (RetID 0 w) := by
  have hi' : (i : Int) < (s.size : Int) := by omega
  have d1 : decide ((194 : Int) ≤ (c : Int)) = true := decide_eq_true (by omega)
  have d4 : decide ((c : Int) ≤ 223) = false := decide_eq_false (by omega)
  have d2 : decide ((224 : Int) ≤ (c : Int)) = true := decide_eq_true (by omega)
  have d5 : decide ((c : Int) ≤ 239) = true := decide_eq_true (by omega)
  have d3 : decide ((240 : Int) ≤ (c : Int)) = false := decide_eq_false (by omega)
  go_enter Tryd.func33, Tryd.ntmps33
  go_wp2_with (first | (go_at_call 48; (with_reducible refine (tail1 s i _ t1 _).mono ?_); rintro e w' ⟨rfl, rfl⟩) | (go_at_call 48; (with_reducible refine (tail2 s i _ t2 _).mono ?_); rintro e w' ⟨rfl, rfl⟩))
  go_ret
  exact ⟨rfl, 0, rfl⟩

set_option maxRecDepth 100000 in
set_option maxHeartbeats 2000000 in
theorem size_5f1 (s : ByteArray) (i : Nat) (w : World) (c : Nat) (hi : i < s.size) (hs : s.size ≤ 4611686018427387904) (hb : (s[i]'hi).toNat = c) (h : 240 ≤ c) (h' : c ≤ 244) (t1 : tailB s (i + 1) = false) : Calls Tryd.prog 33 #[.string s, .int .i64 i] w (RetID 0 w) := by
  have hi' : (i : Int) < (s.size : Int) := by omega
  have d1 : decide ((194 : Int) ≤ (c : Int)) = true := decide_eq_true (by omega)
  have d4 : decide ((c : Int) ≤ 223) = false := decide_eq_false (by omega)
  have d2 : decide ((224 : Int) ≤ (c : Int)) = true := decide_eq_true (by omega)
  have d5 : decide ((c : Int) ≤ 239) = false := decide_eq_false (by omega)
  have d3 : decide ((240 : Int) ≤ (c : Int)) = true := decide_eq_true (by omega)
  have d6 : decide ((c : Int) ≤ 244) = true := decide_eq_true (by omega)
  go_enter Tryd.func33, Tryd.ntmps33
  go_wp2_with (go_at_call 48; (with_reducible refine (tail1 s i _ t1 _).mono ?_); rintro e w' ⟨rfl, rfl⟩)
  go_ret
  exact ⟨rfl, 0, rfl⟩

set_option maxRecDepth 100000 in
set_option maxHeartbeats 2000000 in
theorem size_5f2 (s : ByteArray) (i : Nat) (w : World) (c : Nat) (hi : i < s.size) (hs : s.size ≤ 4611686018427387904) (hb : (s[i]'hi).toNat = c) (h : 240 ≤ c) (h' : c ≤ 244) (t1 : tailB s (i + 1) = true) (t2 : tailB s (i + 2) = false) : Calls Tryd.prog 33 #[.string s, .int .i64 i] w (RetID 0 w) := by
  have hi' : (i : Int) < (s.size : Int) := by omega
  have d1 : decide ((194 : Int) ≤ (c : Int)) = true := decide_eq_true (by omega)
  have d4 : decide ((c : Int) ≤ 223) = false := decide_eq_false (by omega)
  have d2 : decide ((224 : Int) ≤ (c : Int)) = true := decide_eq_true (by omega)
  have d5 : decide ((c : Int) ≤ 239) = false := decide_eq_false (by omega)
  have d3 : decide ((240 : Int) ≤ (c : Int)) = true := decide_eq_true (by omega)
  have d6 : decide ((c : Int) ≤ 244) = true := decide_eq_true (by omega)
  go_enter Tryd.func33, Tryd.ntmps33
  go_wp2_with (first | (go_at_call 48; (with_reducible refine (tail1 s i _ t1 _).mono ?_); rintro e w' ⟨rfl, rfl⟩) | (go_at_call 48; (with_reducible refine (tail2 s i _ t2 _).mono ?_); rintro e w' ⟨rfl, rfl⟩))
  go_ret
  exact ⟨rfl, 0, rfl⟩

set_option maxRecDepth 100000 in
set_option maxHeartbeats 2000000 in
theorem size_5f3 (s : ByteArray) (i : Nat) (w : World) (c : Nat) (hi : i < s.size) (hs : s.size ≤ 4611686018427387904) (hb : (s[i]'hi).toNat = c) (h : 240 ≤ c) (h' : c ≤ 244) (t1 : tailB s (i + 1) = true) (t2 : tailB s (i + 2) = true) (t3 : tailB s (i + 3) = false) : Calls Tryd.prog 33 #[.string s, .int .i64 i] w (RetID 0 w) := by
  have hi' : (i : Int) < (s.size : Int) := by omega
  have d1 : decide ((194 : Int) ≤ (c : Int)) = true := decide_eq_true (by omega)
  have d4 : decide ((c : Int) ≤ 223) = false := decide_eq_false (by omega)
  have d2 : decide ((224 : Int) ≤ (c : Int)) = true := decide_eq_true (by omega)
  have d5 : decide ((c : Int) ≤ 239) = false := decide_eq_false (by omega)
  have d3 : decide ((240 : Int) ≤ (c : Int)) = true := decide_eq_true (by omega)
  have d6 : decide ((c : Int) ≤ 244) = true := decide_eq_true (by omega)
  go_enter Tryd.func33, Tryd.ntmps33
  go_wp2_with (first | (go_at_call 48; (with_reducible refine (tail1 s i _ t1 _).mono ?_); rintro e w' ⟨rfl, rfl⟩) | (go_at_call 48; (with_reducible refine (tail2 s i _ t2 _).mono ?_); rintro e w' ⟨rfl, rfl⟩) | (go_at_call 48; (with_reducible refine (tail3 s i _ t3 _).mono ?_); rintro e w' ⟨rfl, rfl⟩))
  go_ret
  exact ⟨rfl, 0, rfl⟩
set_option maxRecDepth 100000 in
set_option maxHeartbeats 2000000 in
theorem size_4a0 (s : ByteArray) (i : Nat) (w : World) (c c1 : Nat) (hi : i < s.size) (hs : s.size ≤ 4611686018427387904) (hb : (s[i]'hi).toNat = c) (hi1 : i + 1 < s.size) (hb1 : (s[i + 1]'hi1).toNat = c1) (h : c = 224) (hc1 : c1 < 160) (t1 : tailB s (i + 1) = true) (t2 : tailB s (i + 2) = true) : Calls Tryd.prog 33 #[.string s, .int .i64 i] w (RetID 0 w) := by
  have hi' : (i : Int) < (s.size : Int) := by omega
  have hj0 : (0 : Int) ≤ (i : Int) + 1 := by omega
  have hj' : (i : Int) + 1 < (s.size : Int) := by omega
  have ej : ((i : Int) + 1).toNat = i + 1 := by omega
  subst h
  have g1 : decide ((c1 : Int) < 160) = true := decide_eq_true (by omega)
  go_enter Tryd.func33, Tryd.ntmps33
  go_wp2_with (first | (go_at_call 48; (with_reducible refine (tail1 s i _ t1 _).mono ?_); rintro e w' ⟨rfl, rfl⟩) | (go_at_call 48; (with_reducible refine (tail2 s i _ t2 _).mono ?_); rintro e w' ⟨rfl, rfl⟩))
  go_ret
  exact ⟨rfl, 0, rfl⟩

set_option maxRecDepth 100000 in
set_option maxHeartbeats 2000000 in
theorem size_4a3 (s : ByteArray) (i : Nat) (w : World) (c c1 : Nat) (hi : i < s.size) (hs : s.size ≤ 4611686018427387904) (hb : (s[i]'hi).toNat = c) (hi1 : i + 1 < s.size) (hb1 : (s[i + 1]'hi1).toNat = c1) (h : c = 224) (hc1 : 160 ≤ c1) (t1 : tailB s (i + 1) = true) (t2 : tailB s (i + 2) = true) : Calls Tryd.prog 33 #[.string s, .int .i64 i] w (RetID 3 w) := by
  have hi' : (i : Int) < (s.size : Int) := by omega
  have hj0 : (0 : Int) ≤ (i : Int) + 1 := by omega
  have hj' : (i : Int) + 1 < (s.size : Int) := by omega
  have ej : ((i : Int) + 1).toNat = i + 1 := by omega
  subst h
  have g1 : decide ((c1 : Int) < 160) = false := decide_eq_false (by omega)
  go_enter Tryd.func33, Tryd.ntmps33
  go_wp2_with (first | (go_at_call 48; (with_reducible refine (tail1 s i _ t1 _).mono ?_); rintro e w' ⟨rfl, rfl⟩) | (go_at_call 48; (with_reducible refine (tail2 s i _ t2 _).mono ?_); rintro e w' ⟨rfl, rfl⟩))
  go_ret
  exact ⟨rfl, 0, rfl⟩

set_option maxRecDepth 100000 in
set_option maxHeartbeats 2000000 in
theorem size_4b0 (s : ByteArray) (i : Nat) (w : World) (c c1 : Nat) (hi : i < s.size) (hs : s.size ≤ 4611686018427387904) (hb : (s[i]'hi).toNat = c) (hi1 : i + 1 < s.size) (hb1 : (s[i + 1]'hi1).toNat = c1) (h : c = 237) (hc1 : 159 < c1) (t1 : tailB s (i + 1) = true) (t2 : tailB s (i + 2) = true) : Calls Tryd.prog 33 #[.string s, .int .i64 i] w (RetID 0 w) := by
  have hi' : (i : Int) < (s.size : Int) := by omega
  have hj0 : (0 : Int) ≤ (i : Int) + 1 := by omega
  have hj' : (i : Int) + 1 < (s.size : Int) := by omega
  have ej : ((i : Int) + 1).toNat = i + 1 := by omega
  subst h
  have g1 : decide (159 < (c1 : Int)) = true := decide_eq_true (by omega)
  go_enter Tryd.func33, Tryd.ntmps33
  go_wp2_with (first | (go_at_call 48; (with_reducible refine (tail1 s i _ t1 _).mono ?_); rintro e w' ⟨rfl, rfl⟩) | (go_at_call 48; (with_reducible refine (tail2 s i _ t2 _).mono ?_); rintro e w' ⟨rfl, rfl⟩))
  go_ret
  exact ⟨rfl, 0, rfl⟩

set_option maxRecDepth 100000 in
set_option maxHeartbeats 2000000 in
theorem size_4b3 (s : ByteArray) (i : Nat) (w : World) (c c1 : Nat) (hi : i < s.size) (hs : s.size ≤ 4611686018427387904) (hb : (s[i]'hi).toNat = c) (hi1 : i + 1 < s.size) (hb1 : (s[i + 1]'hi1).toNat = c1) (h : c = 237) (hc1 : c1 ≤ 159) (t1 : tailB s (i + 1) = true) (t2 : tailB s (i + 2) = true) : Calls Tryd.prog 33 #[.string s, .int .i64 i] w (RetID 3 w) := by
  have hi' : (i : Int) < (s.size : Int) := by omega
  have hj0 : (0 : Int) ≤ (i : Int) + 1 := by omega
  have hj' : (i : Int) + 1 < (s.size : Int) := by omega
  have ej : ((i : Int) + 1).toNat = i + 1 := by omega
  subst h
  have g1 : decide (159 < (c1 : Int)) = false := decide_eq_false (by omega)
  go_enter Tryd.func33, Tryd.ntmps33
  go_wp2_with (first | (go_at_call 48; (with_reducible refine (tail1 s i _ t1 _).mono ?_); rintro e w' ⟨rfl, rfl⟩) | (go_at_call 48; (with_reducible refine (tail2 s i _ t2 _).mono ?_); rintro e w' ⟨rfl, rfl⟩))
  go_ret
  exact ⟨rfl, 0, rfl⟩

set_option maxRecDepth 100000 in
set_option maxHeartbeats 2000000 in
theorem size_4c3 (s : ByteArray) (i : Nat) (w : World) (c c1 : Nat) (hi : i < s.size) (hs : s.size ≤ 4611686018427387904) (hb : (s[i]'hi).toNat = c) (hi1 : i + 1 < s.size) (_hb1 : (s[i + 1]'hi1).toNat = c1) (h : 224 < c) (h' : c ≤ 239) (h2 : c ≠ 237) (t1 : tailB s (i + 1) = true) (t2 : tailB s (i + 2) = true) : Calls Tryd.prog 33 #[.string s, .int .i64 i] w (RetID 3 w) := by
  have hi' : (i : Int) < (s.size : Int) := by omega
  have hj0 : (0 : Int) ≤ (i : Int) + 1 := by omega
  have hj' : (i : Int) + 1 < (s.size : Int) := by omega
  have ej : ((i : Int) + 1).toNat = i + 1 := by omega
  have d1 : decide ((194 : Int) ≤ (c : Int)) = true := decide_eq_true (by omega)
  have d4 : decide ((c : Int) ≤ 223) = false := decide_eq_false (by omega)
  have d2 : decide ((224 : Int) ≤ (c : Int)) = true := decide_eq_true (by omega)
  have d5 : decide ((c : Int) ≤ 239) = true := decide_eq_true (by omega)
  have d3 : decide ((240 : Int) ≤ (c : Int)) = false := decide_eq_false (by omega)
  have g1 : ((c : Int) == 224) = false := by rw [beq_eq_false_iff_ne]; omega
  have g2 : ((c : Int) == 237) = false := by rw [beq_eq_false_iff_ne]; omega
  go_enter Tryd.func33, Tryd.ntmps33
  go_wp2_with (first | (go_at_call 48; (with_reducible refine (tail1 s i _ t1 _).mono ?_); rintro e w' ⟨rfl, rfl⟩) | (go_at_call 48; (with_reducible refine (tail2 s i _ t2 _).mono ?_); rintro e w' ⟨rfl, rfl⟩))
  go_ret
  exact ⟨rfl, 0, rfl⟩

set_option maxRecDepth 100000 in
set_option maxHeartbeats 2000000 in
theorem size_5a0 (s : ByteArray) (i : Nat) (w : World) (c c1 : Nat) (hi : i < s.size) (hs : s.size ≤ 4611686018427387904) (hb : (s[i]'hi).toNat = c) (hi1 : i + 1 < s.size) (hb1 : (s[i + 1]'hi1).toNat = c1) (h : c = 240) (hc1 : c1 < 144) (t1 : tailB s (i + 1) = true) (t2 : tailB s (i + 2) = true) (t3 : tailB s (i + 3) = true) : Calls Tryd.prog 33 #[.string s, .int .i64 i] w (RetID 0 w) := by
  have hi' : (i : Int) < (s.size : Int) := by omega
  have hj0 : (0 : Int) ≤ (i : Int) + 1 := by omega
  have hj' : (i : Int) + 1 < (s.size : Int) := by omega
  have ej : ((i : Int) + 1).toNat = i + 1 := by omega
  subst h
  have g1 : decide ((c1 : Int) < 144) = true := decide_eq_true (by omega)
  go_enter Tryd.func33, Tryd.ntmps33
  go_wp2_with (first | (go_at_call 48; (with_reducible refine (tail1 s i _ t1 _).mono ?_); rintro e w' ⟨rfl, rfl⟩) | (go_at_call 48; (with_reducible refine (tail2 s i _ t2 _).mono ?_); rintro e w' ⟨rfl, rfl⟩) | (go_at_call 48; (with_reducible refine (tail3 s i _ t3 _).mono ?_); rintro e w' ⟨rfl, rfl⟩))
  go_ret
  exact ⟨rfl, 0, rfl⟩

set_option maxRecDepth 100000 in
set_option maxHeartbeats 2000000 in
theorem size_5a3 (s : ByteArray) (i : Nat) (w : World) (c c1 : Nat) (hi : i < s.size) (hs : s.size ≤ 4611686018427387904) (hb : (s[i]'hi).toNat = c) (hi1 : i + 1 < s.size) (hb1 : (s[i + 1]'hi1).toNat = c1) (h : c = 240) (hc1 : 144 ≤ c1) (t1 : tailB s (i + 1) = true) (t2 : tailB s (i + 2) = true) (t3 : tailB s (i + 3) = true) : Calls Tryd.prog 33 #[.string s, .int .i64 i] w (RetID 4 w) := by
  have hi' : (i : Int) < (s.size : Int) := by omega
  have hj0 : (0 : Int) ≤ (i : Int) + 1 := by omega
  have hj' : (i : Int) + 1 < (s.size : Int) := by omega
  have ej : ((i : Int) + 1).toNat = i + 1 := by omega
  subst h
  have g1 : decide ((c1 : Int) < 144) = false := decide_eq_false (by omega)
  go_enter Tryd.func33, Tryd.ntmps33
  go_wp2_with (first | (go_at_call 48; (with_reducible refine (tail1 s i _ t1 _).mono ?_); rintro e w' ⟨rfl, rfl⟩) | (go_at_call 48; (with_reducible refine (tail2 s i _ t2 _).mono ?_); rintro e w' ⟨rfl, rfl⟩) | (go_at_call 48; (with_reducible refine (tail3 s i _ t3 _).mono ?_); rintro e w' ⟨rfl, rfl⟩))
  go_ret
  exact ⟨rfl, 0, rfl⟩

set_option maxRecDepth 100000 in
set_option maxHeartbeats 2000000 in
theorem size_5b0 (s : ByteArray) (i : Nat) (w : World) (c c1 : Nat) (hi : i < s.size) (hs : s.size ≤ 4611686018427387904) (hb : (s[i]'hi).toNat = c) (hi1 : i + 1 < s.size) (hb1 : (s[i + 1]'hi1).toNat = c1) (h : c = 244) (hc1 : 143 < c1) (t1 : tailB s (i + 1) = true) (t2 : tailB s (i + 2) = true) (t3 : tailB s (i + 3) = true) : Calls Tryd.prog 33 #[.string s, .int .i64 i] w (RetID 0 w) := by
  have hi' : (i : Int) < (s.size : Int) := by omega
  have hj0 : (0 : Int) ≤ (i : Int) + 1 := by omega
  have hj' : (i : Int) + 1 < (s.size : Int) := by omega
  have ej : ((i : Int) + 1).toNat = i + 1 := by omega
  subst h
  have g1 : decide (143 < (c1 : Int)) = true := decide_eq_true (by omega)
  go_enter Tryd.func33, Tryd.ntmps33
  go_wp2_with (first | (go_at_call 48; (with_reducible refine (tail1 s i _ t1 _).mono ?_); rintro e w' ⟨rfl, rfl⟩) | (go_at_call 48; (with_reducible refine (tail2 s i _ t2 _).mono ?_); rintro e w' ⟨rfl, rfl⟩) | (go_at_call 48; (with_reducible refine (tail3 s i _ t3 _).mono ?_); rintro e w' ⟨rfl, rfl⟩))
  go_ret
  exact ⟨rfl, 0, rfl⟩

set_option maxRecDepth 100000 in
set_option maxHeartbeats 2000000 in
theorem size_5b3 (s : ByteArray) (i : Nat) (w : World) (c c1 : Nat) (hi : i < s.size) (hs : s.size ≤ 4611686018427387904) (hb : (s[i]'hi).toNat = c) (hi1 : i + 1 < s.size) (hb1 : (s[i + 1]'hi1).toNat = c1) (h : c = 244) (hc1 : c1 ≤ 143) (t1 : tailB s (i + 1) = true) (t2 : tailB s (i + 2) = true) (t3 : tailB s (i + 3) = true) : Calls Tryd.prog 33 #[.string s, .int .i64 i] w (RetID 4 w) := by
  have hi' : (i : Int) < (s.size : Int) := by omega
  have hj0 : (0 : Int) ≤ (i : Int) + 1 := by omega
  have hj' : (i : Int) + 1 < (s.size : Int) := by omega
  have ej : ((i : Int) + 1).toNat = i + 1 := by omega
  subst h
  have g1 : decide (143 < (c1 : Int)) = false := decide_eq_false (by omega)
  go_enter Tryd.func33, Tryd.ntmps33
  go_wp2_with (first | (go_at_call 48; (with_reducible refine (tail1 s i _ t1 _).mono ?_); rintro e w' ⟨rfl, rfl⟩) | (go_at_call 48; (with_reducible refine (tail2 s i _ t2 _).mono ?_); rintro e w' ⟨rfl, rfl⟩) | (go_at_call 48; (with_reducible refine (tail3 s i _ t3 _).mono ?_); rintro e w' ⟨rfl, rfl⟩))
  go_ret
  exact ⟨rfl, 0, rfl⟩

set_option maxRecDepth 100000 in
set_option maxHeartbeats 2000000 in
theorem size_5c3 (s : ByteArray) (i : Nat) (w : World) (c c1 : Nat) (hi : i < s.size) (hs : s.size ≤ 4611686018427387904) (hb : (s[i]'hi).toNat = c) (hi1 : i + 1 < s.size) (_hb1 : (s[i + 1]'hi1).toNat = c1) (h : 240 < c) (h' : c ≤ 244) (h2 : c ≠ 244) (t1 : tailB s (i + 1) = true) (t2 : tailB s (i + 2) = true) (t3 : tailB s (i + 3) = true) : Calls Tryd.prog 33 #[.string s, .int .i64 i] w (RetID 4 w) := by
  have hi' : (i : Int) < (s.size : Int) := by omega
  have hj0 : (0 : Int) ≤ (i : Int) + 1 := by omega
  have hj' : (i : Int) + 1 < (s.size : Int) := by omega
  have ej : ((i : Int) + 1).toNat = i + 1 := by omega
  have d1 : decide ((194 : Int) ≤ (c : Int)) = true := decide_eq_true (by omega)
  have d4 : decide ((c : Int) ≤ 223) = false := decide_eq_false (by omega)
  have d2 : decide ((224 : Int) ≤ (c : Int)) = true := decide_eq_true (by omega)
  have d5 : decide ((c : Int) ≤ 239) = false := decide_eq_false (by omega)
  have d3 : decide ((240 : Int) ≤ (c : Int)) = true := decide_eq_true (by omega)
  have d6 : decide ((c : Int) ≤ 244) = true := decide_eq_true (by omega)
  have g1 : ((c : Int) == 240) = false := by rw [beq_eq_false_iff_ne]; omega
  have g2 : ((c : Int) == 244) = false := by rw [beq_eq_false_iff_ne]; omega
  go_enter Tryd.func33, Tryd.ntmps33
  go_wp2_with (first | (go_at_call 48; (with_reducible refine (tail1 s i _ t1 _).mono ?_); rintro e w' ⟨rfl, rfl⟩) | (go_at_call 48; (with_reducible refine (tail2 s i _ t2 _).mono ?_); rintro e w' ⟨rfl, rfl⟩) | (go_at_call 48; (with_reducible refine (tail3 s i _ t3 _).mono ?_); rintro e w' ⟨rfl, rfl⟩))
  go_ret
  exact ⟨rfl, 0, rfl⟩

theorem tailB_lt {s : ByteArray} {j : Nat} (h : tailB s j = true) : j < s.size := by
  unfold tailB at h
  simp at h
  exact h.1
theorem size_any (s : ByteArray) (i : Nat) (w : World) (hi : i < s.size) (hs : s.size ≤ 4611686018427387904) :
    Calls Tryd.prog 33 #[.string s, .int .i64 i] w (RetID (sizeAt s i) w) := by
  have hb := bt_get s hi
  have key : ∀ n : Int, Calls Tryd.prog 33 #[.string s, .int .i64 i] w (RetID n w) → n = sizeAt s i → Calls Tryd.prog 33 #[.string s, .int .i64 i] w (RetID (sizeAt s i) w) := fun n h e => e ▸ h
  by_cases a1 : bt s i < 128
  · exact key _ (size_1 s i w _ hi hs hb a1) (by unfold sizeAt; rw [if_pos a1]; rfl)
  by_cases a2 : bt s i < 194
  · exact key _ (size_2 s i w _ hi hs hb (by omega) a2) (by unfold sizeAt; rw [if_neg a1, if_neg (by omega), if_neg (by omega), if_neg (by omega)]; rfl)
  by_cases a3 : bt s i ≤ 223
  · cases t1 : tailB s (i + 1)
    · exact key _ (size_3f s i w _ hi hs hb (by omega) a3 t1) (by unfold sizeAt; rw [if_neg a1, if_neg (by simp [t1]), if_neg (by omega), if_neg (by omega)]; rfl)
    · exact key _ (size_3t s i w _ hi hs hb (by omega) a3 t1) (by unfold sizeAt; rw [if_neg a1, if_pos ⟨by omega, by omega, t1⟩]; rfl)
  by_cases a4 : bt s i ≤ 239
  · cases t1 : tailB s (i + 1)
    · exact key _ (size_4f1 s i w _ hi hs hb (by omega) a4 t1) (by unfold sizeAt; rw [if_neg a1, if_neg (by omega), if_neg (by simp [t1]), if_neg (by omega)]; rfl)
    cases t2 : tailB s (i + 2)
    · exact key _ (size_4f2 s i w _ hi hs hb (by omega) a4 t1 t2) (by unfold sizeAt; rw [if_neg a1, if_neg (by omega), if_neg (by simp [t2]), if_neg (by omega)]; rfl)
    have hi1 := tailB_lt t1
    have hb1 := bt_get s hi1
    have e : sizeAt s i = if (bt s i = 224 ∧ bt s (i + 1) < 160) ∨ (bt s i = 237 ∧ 159 < bt s (i + 1)) then 0 else 3 := by
      unfold sizeAt; rw [if_neg a1, if_neg (by omega), if_pos ⟨by omega, by omega, t1, t2⟩]
    by_cases b1 : bt s i = 224
    · by_cases b2 : bt s (i + 1) < 160
      · exact key _ (size_4a0 s i w _ _ hi hs hb hi1 hb1 b1 b2 t1 t2) (by rw [e, if_pos (.inl ⟨b1, b2⟩)]; rfl)
      · exact key _ (size_4a3 s i w _ _ hi hs hb hi1 hb1 b1 (by omega) t1 t2) (by rw [e, if_neg (by omega)]; rfl)
    by_cases b3 : bt s i = 237
    · by_cases b2 : 159 < bt s (i + 1)
      · exact key _ (size_4b0 s i w _ _ hi hs hb hi1 hb1 b3 b2 t1 t2) (by rw [e, if_pos (.inr ⟨b3, b2⟩)]; rfl)
      · exact key _ (size_4b3 s i w _ _ hi hs hb hi1 hb1 b3 (by omega) t1 t2) (by rw [e, if_neg (by omega)]; rfl)
    · exact key _ (size_4c3 s i w _ _ hi hs hb hi1 hb1 (by omega) a4 b3 t1 t2) (by rw [e, if_neg (by omega)]; rfl)
  by_cases a5 : bt s i ≤ 244
  · cases t1 : tailB s (i + 1)
    · exact key _ (size_5f1 s i w _ hi hs hb (by omega) a5 t1) (by unfold sizeAt; rw [if_neg a1, if_neg (by omega), if_neg (by omega), if_neg (by simp [t1])]; rfl)
    cases t2 : tailB s (i + 2)
    · exact key _ (size_5f2 s i w _ hi hs hb (by omega) a5 t1 t2) (by unfold sizeAt; rw [if_neg a1, if_neg (by omega), if_neg (by omega), if_neg (by simp [t2])]; rfl)
    cases t3 : tailB s (i + 3)
    · exact key _ (size_5f3 s i w _ hi hs hb (by omega) a5 t1 t2 t3) (by unfold sizeAt; rw [if_neg a1, if_neg (by omega), if_neg (by omega), if_neg (by simp [t3])]; rfl)
    have hi1 := tailB_lt t1
    have hb1 := bt_get s hi1
    have e : sizeAt s i = if (bt s i = 240 ∧ bt s (i + 1) < 144) ∨ (bt s i = 244 ∧ 143 < bt s (i + 1)) then 0 else 4 := by
      unfold sizeAt; rw [if_neg a1, if_neg (by omega), if_neg (by omega), if_pos ⟨by omega, by omega, t1, t2, t3⟩]
    by_cases b1 : bt s i = 240
    · by_cases b2 : bt s (i + 1) < 144
      · exact key _ (size_5a0 s i w _ _ hi hs hb hi1 hb1 b1 b2 t1 t2 t3) (by rw [e, if_pos (.inl ⟨b1, b2⟩)]; rfl)
      · exact key _ (size_5a3 s i w _ _ hi hs hb hi1 hb1 b1 (by omega) t1 t2 t3) (by rw [e, if_neg (by omega)]; rfl)
    by_cases b3 : bt s i = 244
    · by_cases b2 : 143 < bt s (i + 1)
      · exact key _ (size_5b0 s i w _ _ hi hs hb hi1 hb1 b3 b2 t1 t2 t3) (by rw [e, if_pos (.inr ⟨b3, b2⟩)]; rfl)
      · exact key _ (size_5b3 s i w _ _ hi hs hb hi1 hb1 b3 (by omega) t1 t2 t3) (by rw [e, if_neg (by omega)]; rfl)
    · exact key _ (size_5c3 s i w _ _ hi hs hb hi1 hb1 (by omega) a5 b3 t1 t2 t3) (by rw [e, if_neg (by omega)]; rfl)
  exact key _ (size_6 s i w _ hi hs hb (by omega)) (by unfold sizeAt; rw [if_neg a1, if_neg (by omega), if_neg (by omega), if_neg (by omega)]; rfl)
end Go.Proofs.YtkaafakodeeidaaDoor
