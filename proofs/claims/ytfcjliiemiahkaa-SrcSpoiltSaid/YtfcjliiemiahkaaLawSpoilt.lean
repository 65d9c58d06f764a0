/-
  The law SrcSpoilt, walked.
-/
import Derived.Test.YtfcjliiemiahkaaAlive
import Derived.Test.YtfcjliiemiahkaaCuts
namespace Go.Proofs.Ytfcjliiemiahkaa
open Go.RowKit

def RetT (w : World) (e : Ending) (w' : World) : Prop := e = .returned (.bool true) ∧ Below w.heap.size w w'

theorem min_int (m n : Nat) (c : Int) (hc : c = (m : Int)) : ∀ W, (Builtin.min_ #[3, 3] 3 #[.int .i64 (n : Int), .int .i64 c]).run Try.prog W = .ok (.int .i64 ((min n m : Nat) : Int)) W := fun W => by
  subst hc
  rw [run_min_int2]
  congr 2
  omega
theorem cut_str (s : ByteArray) (m : Nat) : ∃ n s', n = min s.size m ∧ s.extract 0 n = s' ∧ s'.size = n ∧ n ≤ s.size ∧ n ≤ m := ⟨_, _, rfl, rfl, by simp, by omega, by omega⟩

set_option maxRecDepth 100000 in
set_option maxHeartbeats 400000 in
theorem law_spoilt (s0 : ByteArray) (w : World) : Calls Try.prog 4 #[.string s0] w (RetT w) := by
  obtain ⟨n, s, hn, hs, hsz, hn1, hn2⟩ := cut_str s0 4010
  have hmin := min_int 4010 s0.size 4010 rfl
  rw [← hn] at hmin
  have HN := Lib.hid hn; clear hn
  have HS := Lib.hid hs; clear hs
  have HZ := Lib.hid hsz; clear hsz
  have hn' : (n : Int) ≤ (s0.size : Int) := by omega
  go_enter Try.func4, Try.ntmps4
  go_wp2_with fail
  rw [HS.out]
  have hsb := sp_range s 0
  have HSB := Lib.hid hsb; clear hsb
  have hz := HZ.out
  have HB : s.size ≤ 4611686018427387900 := by omega
  have HB := Lib.hid HB
  clear hz hn1 hn2 hn' hmin
  refine (check_any _ _ HB.out).mono ?_
  rintro e w1 ⟨rfl, hb1⟩
  have HB1 := Lib.hid hb1; clear hb1
  by_cases hl : 4000 < s.size
  · have hl' : (4000 : Int) < (s.size : Int) := by omega
    rw [show checkAt s = 0 from if_pos hl, show checkNo s = 7 from if_pos hl]
    go_wp2_with (go_at_call 12; (with_reducible refine (alive_any _).mono ?_); rintro e w2 ⟨rfl, n2, rfl⟩)
    go_ret
    exact ⟨rfl, bel_drewN HB1.out _⟩
  · have hl' : (s.size : Int) ≤ 4000 := by omega
    rcases HSB.out with h | ⟨a, h, _, ha⟩
    · rw [show checkAt s = 0 by unfold checkAt; rw [if_neg hl, if_pos h], show checkNo s = 0 by unfold checkNo; rw [if_neg hl, if_pos h]]
      have H := Lib.hid h; clear h
      go_wp2_with first
        | (go_at_call 15; (with_reducible refine (spoilt_any _ _ HB.out).mono ?_); rintro e w2 ⟨rfl, n2, rfl⟩; rw [H.out])
        | (go_at_call 12; (with_reducible refine (alive_any _).mono ?_); rintro e w2 ⟨rfl, n2, rfl⟩)
      go_ret
      exact ⟨rfl, bel_drewN HB1.out _⟩
    · rw [show checkAt s = a by unfold checkAt; rw [if_neg hl, if_neg (by omega), h], show checkNo s = 12 by unfold checkNo; rw [if_neg hl, if_neg (by omega)]]
      have H := Lib.hid h; clear h
      go_wp2_with first
        | (go_at_call 15; (with_reducible refine (spoilt_any _ _ HB.out).mono ?_); rintro e w2 ⟨rfl, n2, rfl⟩; rw [H.out])
        | (go_at_call 12; (with_reducible refine (alive_any _).mono ?_); rintro e w2 ⟨rfl, n2, rfl⟩)
      go_ret
      exact ⟨rfl, bel_drewN HB1.out _⟩
end Go.Proofs.Ytfcjliiemiahkaa
