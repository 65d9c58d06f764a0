/-
  alive, walked: true.
-/
import Derived.Test.YtfcjliiemiahkaaPlace
import Derived.Test.YtfcjliiemiahkaaName
namespace Go.Proofs.Ytfcjliiemiahkaa
open Go.RowKit

theorem line_alive : lineOf ⟨#[97, 10, 98, 99]⟩ 3 = 2 := by decide +kernel
theorem col_alive : colOf ⟨#[97, 10, 98, 99]⟩ 3 = 2 := by decide +kernel
theorem pub_alive : pubB ⟨#[65, 98]⟩ = true := by decide +kernel
theorem let_alive : letter 95 = true := by decide +kernel
theorem place_alive (w : World) : Calls Try.prog 6 #[.string ⟨#[97, 10, 98, 99]⟩, .int .i64 3] w (RetP 2 2 0 w) := by
  have h := place_in ⟨#[97, 10, 98, 99]⟩ 3 w (by decide) (by decide)
  rw [line_alive, col_alive] at h
  exact h

set_option maxHeartbeats 400000 in
theorem alive_any (w : World) : Calls Try.prog 12 #[] w (RetBD true w) := by
  go_enter Try.func12, Try.ntmps12
  go_wp2_with first
    | (go_at_call 6; (with_reducible refine (place_alive _).mono ?_); rintro e w' ⟨rfl, rfl⟩)
    | (go_at_call 11; (with_reducible refine (public_any _ _ (by decide)).mono ?_); rintro e w' ⟨rfl, n, rfl⟩; rw [pub_alive])
    | (go_at_call 8; (with_reducible refine (letter_any _ _).mono ?_); rintro e w' ⟨rfl, rfl⟩; rw [let_alive])
  go_ret
  exact ⟨rfl, _, rfl⟩
end Go.Proofs.Ytfcjliiemiahkaa
