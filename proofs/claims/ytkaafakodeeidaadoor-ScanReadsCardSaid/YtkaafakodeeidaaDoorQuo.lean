/-
  Layer 5's quoted texts; walked.
-/
import Derived.Test.YtkaafakodeeidaaDoorWrd
import Derived.BigQuiet
import Derived.Deep.Cut
namespace Go.Proofs.YtkaafakodeeidaaDoor
open Go.RowKit

def RetBX (n : Nat) (w : World) (e : Ending) (w' : World) : Prop := e = .returned (.int .i64 (n : Int)) ∧ Below w.heap.size w w'
theorem quoEnd_out {s : ByteArray} {q k : Nat} (h : ¬ k < s.size) : quoEnd s q k = 0 := by rw [quoEnd, dif_neg h]
theorem quoEnd_hit {s : ByteArray} {q k : Nat} (h : k < s.size) (hq : bt s k = q) : quoEnd s q k = k + 1 := by rw [quoEnd, dif_pos h, if_pos hq]
theorem quoEnd_line {s : ByteArray} {q k : Nat} (h : k < s.size) (hq : bt s k ≠ q) (h2 : q ≠ 96) (h3 : bt s k = 10) : quoEnd s q k = 0 := by rw [quoEnd, dif_pos h, if_neg hq, if_pos ⟨h2, h3⟩]
theorem quoEnd_esc {s : ByteArray} {q k : Nat} (h : k < s.size) (hq : bt s k ≠ q) (h2 : q ≠ 96) (h3 : bt s k = 92) : quoEnd s q k = if k + 1 < s.size ∧ bt s (k + 1) = 10 then 0 else quoEnd s q (k + 2) := by
  rw [quoEnd, dif_pos h, if_neg hq, if_neg (by omega), if_pos ⟨h2, h3⟩]
theorem quoEnd_next {s : ByteArray} {q k : Nat} (h : k < s.size) (hq : bt s k ≠ q) (h2 : q = 96 ∨ (bt s k ≠ 10 ∧ bt s k ≠ 92)) : quoEnd s q k = quoEnd s q (k + 1) := by
  rw [quoEnd, dif_pos h, if_neg hq, if_neg (by omega), if_neg (by omega)]
set_option maxHeartbeats 2000000 in
theorem quoted_any (s : ByteArray) (q : Nat) (w : World) (hs : s.size ≤ 100000) (h0 : 0 < s.size) (hq : bt s 0 = q) : Calls Tryd.prog 32 #[.string s] w (RetBX (quoEnd s q 1) w) := by
  have a0 : (0 : Int) < (s.size : Int) := by omega
  have g0 := bt_get s (i := 0) h0
  rw [hq] at g0
  have HS := Lib.hid (And.intro hs hq); clear hs hq
  obtain ⟨raw, hraw⟩ : ∃ b, ((q : Int) == 96) = b := ⟨_, rfl⟩
  go_enter Tryd.func32, Tryd.ntmps32
  go_wp2
  go_loopw [4] (fun iv wr => ∃ i : Nat, iv = .int .i64 (i : Int) ∧ i ≤ s.size + 1 ∧ Below w.heap.size w wr ∧ quoEnd s q i = quoEnd s q 1) (fun iv _ => s.size + 2 - (intOf iv).toNat)
  case atStart => exact ⟨1, rfl, by omega, bel_refl _, rfl⟩
  case round =>
    obtain ⟨i, rfl, hi, hbl, hr⟩ := hrel
    have HR := Lib.hid (And.intro hbl hr); clear hbl hr
    by_cases hlt : i < s.size
    · have hlt' : (i : Int) < (s.size : Int) := by omega
      have hb := bt_get s hlt
      obtain ⟨b, hbt⟩ : ∃ b, bt s i = b := ⟨_, rfl⟩
      rw [hbt] at hb
      have HB := Lib.hid hbt; clear hbt
      have s1 : IntKind.i64.wrap ((i : Int) + 1) = ((i + 1 : Nat) : Int) := by rw [IntKind.wrap_i64]; have := HS.out.1; omega
      by_cases hbq : b = q
      · have q1 : ((b : Int) == (q : Int)) = true := by simp [hbq]
        have HQ := Lib.hid (show bt s i = q from HB.out.trans hbq); clear hbq
        go_upto_region 5 with fail
        go_quiet (fail)
        go_wp2
        go_ret
        exact ⟨by rw [← HR.out.2, quoEnd_hit hlt HQ.out]; rfl, (bel_drewN HR.out.1 _)⟩
      · have q1 : ((b : Int) == (q : Int)) = false := by simp only [beq_eq_false_iff_ne, ne_eq]; omega
        have HQ := Lib.hid (show bt s i ≠ q by rw [HB.out]; exact hbq); clear hbq
        by_cases hq96 : q = 96
        · have hr2 : raw = true := by rw [← hraw]; simp [hq96]
          subst hr2
          have H96 := Lib.hid hq96; clear hq96
          go_upto_region 5 with fail
          go_quiet (fail)
          go_wp2
          go_roundw
          case rel => exact ⟨i + 1, by first | rfl | go_num, by omega, (bel_drewN HR.out.1 _), by rw [← HR.out.2]; exact (quoEnd_next hlt HQ.out (.inl H96.out)).symm⟩
          case measure => simp [intOf]; omega
        · have hr2 : raw = false := by rw [← hraw]; simp only [beq_eq_false_iff_ne, ne_eq]; omega
          subst hr2
          have H96 := Lib.hid hq96; clear hq96
          by_cases h10 : b = 10
          · have q2 : ((b : Int) == 10) = true := by simp [h10]
            have q3 : (b : Int) = 10 := by omega
            have H10 := Lib.hid (show bt s i = 10 from HB.out.trans h10); clear h10
            go_upto_region 5 with fail
            go_quiet (fail)
            go_wp2
            go_ret
            exact ⟨by rw [← HR.out.2, quoEnd_line hlt HQ.out H96.out H10.out]; rfl, (bel_drewN HR.out.1 _)⟩
          · have q2 : ((b : Int) == 10) = false := by simp only [beq_eq_false_iff_ne, ne_eq]; omega
            have q3 : ¬ (b : Int) = 10 := by omega
            have H10 := Lib.hid (show bt s i ≠ 10 by rw [HB.out]; exact h10); clear h10
            by_cases h92 : b = 92
            · have q4 : ((b : Int) == 92) = true := by simp [h92]
              have q5 : (b : Int) = 92 := by omega
              have H92 := Lib.hid (show bt s i = 92 from HB.out.trans h92); clear h92
              have s2 : IntKind.i64.wrap (((i + 1 : Nat) : Int) + 1) = ((i + 2 : Nat) : Int) := by rw [IntKind.wrap_i64]; have := HS.out.1; omega
              by_cases hn : i + 1 < s.size
              · obtain ⟨i1, hi1⟩ : ∃ k, k = i + 1 := ⟨_, rfl⟩
                obtain ⟨i2, hi2⟩ : ∃ k, k = i + 2 := ⟨_, rfl⟩
                have hn1 : i1 < s.size := by omega
                have hn' : (i1 : Int) < (s.size : Int) := by omega
                have gn := bt_get s hn1
                obtain ⟨c, hc⟩ : ∃ c, bt s i1 = c := ⟨_, rfl⟩
                rw [hc] at gn
                rw [← hi1] at s1 s2
                rw [← hi2] at s2
                have HC := Lib.hid (show bt s (i + 1) = c by rw [← hi1]; exact hc); clear hc
                have HI := Lib.hid (And.intro hi1 hi2); clear hi1 hi2
                by_cases c10 : c = 10
                · have q6 : ((c : Int) == 10) = true := by simp [c10]
                  have q7 : (c : Int) = 10 := by omega
                  have HC2 := Lib.hid (show bt s (i + 1) = 10 from HC.out.trans c10); clear c10
                  go_upto_region 5 with fail
                  go_quiet (fail)
                  go_wp2
                  go_ret
                  exact ⟨by rw [← HR.out.2, quoEnd_esc hlt HQ.out H96.out H92.out, if_pos ⟨hn, HC2.out⟩]; rfl, (bel_drewN HR.out.1 _)⟩
                · have q6 : ((c : Int) == 10) = false := by simp only [beq_eq_false_iff_ne, ne_eq]; omega
                  have q7 : ¬ (c : Int) = 10 := by omega
                  have HC2 := Lib.hid (show bt s (i + 1) ≠ 10 by rw [HC.out]; exact c10); clear c10
                  go_upto_region 5 with fail
                  go_quiet (fail)
                  go_wp2
                  go_roundw
                  case rel => exact ⟨i2, rfl, by have := HI.out.2; omega, (bel_drewN HR.out.1 _), by rw [← HR.out.2, quoEnd_esc hlt HQ.out H96.out H92.out, if_neg (fun h => HC2.out h.2), HI.out.2]⟩
                  case measure => have := HI.out.2; simp [intOf]; omega
              · have hn' : ¬ ((i + 1 : Nat) : Int) < (s.size : Int) := by omega
                obtain ⟨i1, hi1⟩ : ∃ k, k = i + 1 := ⟨_, rfl⟩
                obtain ⟨i2, hi2⟩ : ∃ k, k = i + 2 := ⟨_, rfl⟩
                rw [← hi1] at s1 s2 hn'
                rw [← hi2] at s2
                have HI := Lib.hid (And.intro hi1 hi2); clear hi1 hi2
                go_upto_region 5 with fail
                go_quiet (fail)
                go_wp2
                go_roundw
                case rel => exact ⟨i2, rfl, by have := HI.out.2; omega, (bel_drewN HR.out.1 _), by rw [← HR.out.2, quoEnd_esc hlt HQ.out H96.out H92.out, if_neg (fun h => hn h.1), HI.out.2]⟩
                case measure => have := HI.out.2; simp [intOf]; omega
            · have q4 : ((b : Int) == 92) = false := by simp only [beq_eq_false_iff_ne, ne_eq]; omega
              have q5 : ¬ (b : Int) = 92 := by omega
              have H92 := Lib.hid (show bt s i ≠ 92 by rw [HB.out]; exact h92); clear h92
              go_upto_region 5 with fail
              go_quiet (fail)
              go_wp2
              go_roundw
              case rel => exact ⟨i + 1, by first | rfl | go_num, by omega, (bel_drewN HR.out.1 _), by rw [← HR.out.2]; exact (quoEnd_next hlt HQ.out (.inr ⟨H10.out, H92.out⟩)).symm⟩
              case measure => simp [intOf]; omega
    · have hlt' : ¬ (i : Int) < (s.size : Int) := by omega
      go_wp2
      go_ret
      exact ⟨by rw [← HR.out.2, quoEnd_out hlt]; rfl, HR.out.1⟩
end Go.Proofs.YtkaafakodeeidaaDoor
