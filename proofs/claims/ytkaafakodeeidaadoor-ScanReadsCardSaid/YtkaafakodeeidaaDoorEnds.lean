/-
  Layer 5: is a new line behind tokens one? Walked, on both sides.
-/
import Derived.Test.YtkaafakodeeidaaDoorTks
namespace Go.Proofs.YtkaafakodeeidaaDoor
open Go.RowKit

theorem ends_nil {M : List Tk} (h : M.length = 0) : endsB M = false := by unfold endsB; rw [if_pos h]
set_option maxRecDepth 100000 in
set_option maxHeartbeats 2000000 in
theorem ends_any (M : List Tk) (A : Option Addr) (cap : Nat) (w : World) (hM : M.length ≤ 100000) (h : TksR w A M) : Calls Tryd.prog 14 #[.slice A M.length cap] w (RetBw (endsB M) w) := by
  rcases Nat.eq_zero_or_pos M.length with hz | hp
  · rw [ends_nil hz, hz]
    go_enter Tryd.func14, Tryd.ntmps14
    go_wp2
    go_ret
    exact ⟨rfl, bel_refl _⟩
  · obtain ⟨b, off, kd, tx, pl, rfl, hnd, hb, c0, c1, c2⟩ := h.node (bel_refl w) (k := M.length - 1) (by omega)
    have he : endsB M = endT ⟨kd, tx, pl⟩ := by unfold endsB; rw [if_neg (by omega), ← hnd]
    rw [he]
    obtain ⟨n, hn⟩ : ∃ n, M.length = n := ⟨_, rfl⟩
    rw [hn] at hp hM c0 c1 c2 ⊢
    have hn0 : ((n : Int) == 0) = false := by simp only [beq_eq_false_iff_ne, ne_eq]; omega
    have hn1 : IntKind.i64.wrap ((n : Int) - 1) = ((n - 1 : Nat) : Int) := by rw [IntKind.wrap_i64]; omega
    have hn2 : ((n - 1 : Nat) : Int) < (n : Int) := by omega
    clear he hnd hn
    obtain ⟨v, hv⟩ : ∃ v, endT ⟨kd, tx, pl⟩ = v := ⟨_, rfl⟩
    rw [hv]
    by_cases h6 : kd = 6
    · subst h6
      go_enter Tryd.func14, Tryd.ntmps14
      go_wp2_with fail
      all_goals
        go_ret
        refine ⟨ret_bool ?_, bel_alloc (bel_refl _) _⟩
        rw [← hv]
        unfold endT
        first | rfl | simp [*]
    · have f6 : ((kd : Int) == 6) = false := by simp only [beq_eq_false_iff_ne, ne_eq]; omega
      have g6 : ¬ (kd : Int) = 6 := by omega
      by_cases h7 : kd = 7
      · subst h7
        clear h6
        go_enter Tryd.func14, Tryd.ntmps14
        go_wp2_with fail
        all_goals
          go_ret
          refine ⟨ret_bool ?_, bel_alloc (bel_refl _) _⟩
          rw [← hv]
          unfold endT
          first | rfl | simp [*]
      · have f7 : ((kd : Int) == 7) = false := by simp only [beq_eq_false_iff_ne, ne_eq]; omega
        have g7 : ¬ (kd : Int) = 7 := by omega
        have H6 := Lib.hid (And.intro h6 h7); clear h6 h7
        go_enter Tryd.func14, Tryd.ntmps14
        go_wp2_with fail
        all_goals
          go_ret
          refine ⟨ret_bool ?_, bel_alloc (bel_refl _) _⟩
          rw [← hv]
          unfold endT
          rw [if_neg H6.out.1, if_neg H6.out.2]
          rw [Bool.eq_iff_iff]
          simp
          omega
theorem tk_mem {L : List Tk} {k : Nat} (h : k < L.length) : L.getD k default ∈ L := by
  rw [List.getD_eq_getElem?_getD, List.getElem?_eq_getElem h]
  exact List.getElem_mem h
set_option maxRecDepth 100000 in
set_option maxHeartbeats 2000000 in
theorem refEnds_any (M : List Tk) (A : Option Addr) (cap : Nat) (w : World) (hM : M.length ≤ 100000) (h : TksR w A M) (hk : ∀ t, t ∈ M → 1 ≤ t.kind ∧ t.kind ≤ 7) : Calls Tryd.prog 18 #[.slice A M.length cap] w (RetBw (endsB M) w) := by
  rcases Nat.eq_zero_or_pos M.length with hz | hp
  · rw [ends_nil hz, hz]
    go_enter Tryd.func18, Tryd.ntmps18
    go_wp2
    go_ret
    exact ⟨rfl, bel_refl _⟩
  · obtain ⟨b, off, kd, tx, pl, rfl, hnd, hb, c0, c1, c2⟩ := h.node (bel_refl w) (k := M.length - 1) (by omega)
    have hk7 : 1 ≤ kd ∧ kd ≤ 7 := by
      have hm := hk ⟨kd, tx, pl⟩ (by rw [hnd]; exact tk_mem (by omega))
      exact hm
    clear hk
    have he : endsB M = endT ⟨kd, tx, pl⟩ := by unfold endsB; rw [if_neg (by omega), ← hnd]
    rw [he]
    obtain ⟨n, hn⟩ : ∃ n, M.length = n := ⟨_, rfl⟩
    rw [hn] at hp hM c0 c1 c2 ⊢
    have hn0 : ((n : Int) == 0) = false := by simp only [beq_eq_false_iff_ne, ne_eq]; omega
    have hn1 : IntKind.i64.wrap ((n : Int) - 1) = ((n - 1 : Nat) : Int) := by rw [IntKind.wrap_i64]; omega
    have hn2 : ((n - 1 : Nat) : Int) < (n : Int) := by omega
    clear he hnd hn
    obtain ⟨v, hv⟩ : ∃ v, endT ⟨kd, tx, pl⟩ = v := ⟨_, rfl⟩
    rw [hv]
    by_cases h6 : kd = 6
    · subst h6
      go_enter Tryd.func18, Tryd.ntmps18
      go_wp2_with fail
      all_goals
        go_ret
        refine ⟨ret_bool ?_, bel_alloc (bel_refl _) _⟩
        rw [← hv]
        unfold endT
        first | rfl | simp [*]
    · have f6 : ((kd : Int) == 6) = false := by simp only [beq_eq_false_iff_ne, ne_eq]; omega
      have g6 : ¬ (kd : Int) = 6 := by omega
      by_cases h7 : kd = 7
      · subst h7
        clear h6
        go_enter Tryd.func18, Tryd.ntmps18
        go_wp2_with fail
        all_goals
          go_ret
          refine ⟨ret_bool ?_, bel_alloc (bel_refl _) _⟩
          rw [← hv]
          unfold endT
          first | rfl | simp [*]
      · have f7 : ((kd : Int) == 7) = false := by simp only [beq_eq_false_iff_ne, ne_eq]; omega
        have g7 : ¬ (kd : Int) = 7 := by omega
        have H6 := Lib.hid (And.intro h6 h7); clear h6 h7
        go_enter Tryd.func18, Tryd.ntmps18
        go_wp2_with fail
        all_goals
          go_ret
          refine ⟨ret_bool ?_, bel_alloc (bel_refl _) _⟩
          rw [← hv]
          unfold endT
          rw [if_neg H6.out.1, if_neg H6.out.2, decide_eq_true (show 1 ≤ kd from hk7.1), decide_eq_true (show kd ≤ 5 by have := H6.out; omega)]
          rfl
end Go.Proofs.YtkaafakodeeidaaDoor
