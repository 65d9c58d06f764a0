/-
  Layer 5's reference: Same, of two rows of tokens that are the same; walked.
-/
import Derived.Test.YtkaafakodeeidaaDoorEnds
import Derived.Laws.StructEq
namespace Go.Proofs.YtkaafakodeeidaaDoor
open Go.RowKit

theorem tk_same (kd pl : Nat) (tx : ByteArray) (w : World) : (binOp .neq 39 (.agg #[.int .i64 (kd : Int), .string tx, .int .i64 (pl : Int)]) (.agg #[.int .i64 (kd : Int), .string tx, .int .i64 (pl : Int)])).run Tryd.prog w = .ok (.bool false) w := by
  go_simp
set_option maxRecDepth 100000 in
set_option maxHeartbeats 1000000 in
theorem refSame5_any (M : List Tk) (A B : Option Addr) (cap cap' : Nat) (w : World) (hM : M.length ≤ 100000) (h : TksR w A M) (h' : TksR w B M) : Calls Tryd.prog 7 #[.slice A M.length cap, .slice B M.length cap'] w (RetBw true w) := by
  obtain ⟨n, hn⟩ : ∃ n, M.length = n := ⟨_, rfl⟩
  have HN := Lib.hid hn
  rw [hn] at hM ⊢
  clear hn
  have HA := Lib.hid h; clear h
  have HB := Lib.hid h'; clear h'
  have hne : ((n : Int) != (n : Int)) = false := by simp
  go_enter Tryd.func7, Tryd.ntmps7
  go_wp2
  go_loopw [5, 13, 14, 15, 16, 17, 18, 19, 20, 21, 22, 23, 24, 25] (fun _ iv _ _ _ _ _ _ _ _ _ _ _ _ wr => ∃ (i : Nat), iv = .int .i64 (i : Int) ∧ i ≤ n ∧ Below w.heap.size w wr) (fun _ iv _ _ _ _ _ _ _ _ _ _ _ _ _ => n - (intOf iv).toNat)
  case atStart => exact ⟨0, rfl, Nat.zero_le _, bel_refl _⟩
  case round =>
    obtain ⟨i, rfl, hi, hb⟩ := hrel
    have HW := Lib.hid hb; clear hb
    by_cases hlt : i < n
    · have hlt' : (i : Int) < (n : Int) := by omega
      obtain ⟨b, off, kd, tx, pl, rfl, hnd, hbl, c0, c1, c2⟩ := HA.out.node HW.out (k := i) (by rw [HN.out]; exact hlt)
      obtain ⟨b', off', kd', tx', pl', rfl, hnd', hbl', d0, d1, d2⟩ := HB.out.node HW.out (k := i) (by rw [HN.out]; exact hlt)
      rw [← hnd] at hnd'
      injection hnd' with e1 e2 e3
      subst e1 e2 e3
      have ht := tk_same kd' pl' tx'
      clear hnd
      go_wp2
      go_region
      go_wp2
      go_roundw
      case rel => exact ⟨i + 1, rfl, by omega, HW.out.drew⟩
      case measure => simp [intOf]; omega
    · have hlt' : ¬ (i : Int) < (n : Int) := by omega
      go_wp2
      go_ret
      exact ⟨rfl, HW.out⟩
end Go.Proofs.YtkaafakodeeidaaDoor
