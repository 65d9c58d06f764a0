/-
  The reference's Kids: may a kind have so many?
-/
import Derived.Test.YtlijfkallnomnaaLeaf
namespace Go.Proofs.Ytlijfkallnomnaa
open Go.RowKit

def kd1 : List Int := [16, 17, 26, 32]
def kd2 : List Int := [6, 9, 11, 12, 18, 19, 20, 22, 27, 29, 30]
def kd3 : List Int := [10, 13, 14, 23, 24, 25]
def kd4 : List Int := [7, 15, 21]

def kidsOk (kind many : Int) : Bool :=
  if hasI kind kd1 then true else if hasI kind kd2 then many == 1 else if hasI kind kd3 then many == 2 else if hasI kind kd4 then decide (1 ≤ many)
  else if kind == 8 then decide (2 ≤ many) else if kind == 28 then many == 4 else many == 0

def RetBB (b : Bool) (w : World) (e : Ending) (w' : World) : Prop := e = .returned (.bool b) ∧ Below w.heap.size w w'

set_option maxHeartbeats 400000 in
theorem kids_0 (kind many : Int) (w : World) (h1 : hasI kind kd1 = true) :
    Calls Try.prog 19 #[.int .i64 kind, .int .i64 many] w (RetBB (kidsOk kind many) w) := by
  have HK : Hid (kidsOk kind many = true) := by show kidsOk kind many = _; unfold kidsOk; simp [h1]
  go_enter Try.func19, Try.ntmps19
  go_wp2_with (first
    | (refine wpList_buildFlat rfl 35 3 4 _ rfl .i64 kd1 (by kernel_rfl) (by kernel_rfl) (by kernel_rfl) rfl (by decide) (by decide) rfl ?_)
    | (go_at_call 26; (with_reducible refine (in_anyN _ 4 4 kind kd1 _ ?_ ?_ ?_).mono ?_); rfl; decide; exact RdI.newAt _ .i64 kd1 3 _ (by simp); rintro e w' ⟨rfl, rfl⟩))
  go_ret
  exact ⟨ret_bool HK.out.symm, (Below.refl _ _).alloc (by simp) _⟩

set_option maxHeartbeats 400000 in
theorem kids_1 (kind many : Int) (w : World) (h1 : hasI kind kd1 = false) (h2 : hasI kind kd2 = true) :
    Calls Try.prog 19 #[.int .i64 kind, .int .i64 many] w (RetBB (kidsOk kind many) w) := by
  have HK : Hid (kidsOk kind many = (many == 1)) := by show kidsOk kind many = _; unfold kidsOk; simp [h1, h2]
  go_enter Try.func19, Try.ntmps19
  go_wp2_with (first
    | (refine wpList_buildFlat rfl 35 3 4 _ rfl .i64 kd1 (by kernel_rfl) (by kernel_rfl) (by kernel_rfl) rfl (by decide) (by decide) rfl ?_)
    | (refine wpList_buildFlat rfl 35 3 11 _ rfl .i64 kd2 (by kernel_rfl) (by kernel_rfl) (by kernel_rfl) rfl (by decide) (by decide) rfl ?_)
    | (go_at_call 26; (with_reducible refine (in_anyN _ 4 4 kind kd1 _ ?_ ?_ ?_).mono ?_); rfl; decide; exact RdI.newAt _ .i64 kd1 3 _ (by simp); rintro e w' ⟨rfl, rfl⟩)
    | (go_at_call 26; (with_reducible refine (in_anyN _ 11 11 kind kd2 _ ?_ ?_ ?_).mono ?_); rfl; decide; exact RdI.newAt _ .i64 kd2 3 _ (by simp); rintro e w' ⟨rfl, rfl⟩))
  go_ret
  exact ⟨ret_bool HK.out.symm, ((Below.refl _ _).alloc (by simp) _).alloc (by simp) _⟩

set_option maxHeartbeats 400000 in
theorem kids_2 (kind many : Int) (w : World) (h1 : hasI kind kd1 = false) (h2 : hasI kind kd2 = false) (h3 : hasI kind kd3 = true) :
    Calls Try.prog 19 #[.int .i64 kind, .int .i64 many] w (RetBB (kidsOk kind many) w) := by
  have HK : Hid (kidsOk kind many = (many == 2)) := by show kidsOk kind many = _; unfold kidsOk; simp [h1, h2, h3]
  go_enter Try.func19, Try.ntmps19
  go_wp2_with (first
    | (refine wpList_buildFlat rfl 35 3 4 _ rfl .i64 kd1 (by kernel_rfl) (by kernel_rfl) (by kernel_rfl) rfl (by decide) (by decide) rfl ?_)
    | (refine wpList_buildFlat rfl 35 3 11 _ rfl .i64 kd2 (by kernel_rfl) (by kernel_rfl) (by kernel_rfl) rfl (by decide) (by decide) rfl ?_)
    | (refine wpList_buildFlat rfl 35 3 6 _ rfl .i64 kd3 (by kernel_rfl) (by kernel_rfl) (by kernel_rfl) rfl (by decide) (by decide) rfl ?_)
    | (go_at_call 26; (with_reducible refine (in_anyN _ 4 4 kind kd1 _ ?_ ?_ ?_).mono ?_); rfl; decide; exact RdI.newAt _ .i64 kd1 3 _ (by simp); rintro e w' ⟨rfl, rfl⟩)
    | (go_at_call 26; (with_reducible refine (in_anyN _ 11 11 kind kd2 _ ?_ ?_ ?_).mono ?_); rfl; decide; exact RdI.newAt _ .i64 kd2 3 _ (by simp); rintro e w' ⟨rfl, rfl⟩)
    | (go_at_call 26; (with_reducible refine (in_anyN _ 6 6 kind kd3 _ ?_ ?_ ?_).mono ?_); rfl; decide; exact RdI.newAt _ .i64 kd3 3 _ (by simp); rintro e w' ⟨rfl, rfl⟩))
  go_ret
  exact ⟨ret_bool HK.out.symm, (((Below.refl _ _).alloc (by simp) _).alloc (by simp) _).alloc (by simp; omega) _⟩

set_option maxHeartbeats 400000 in
theorem kids_3 (kind many : Int) (w : World) (h1 : hasI kind kd1 = false) (h2 : hasI kind kd2 = false) (h3 : hasI kind kd3 = false) (h4 : hasI kind kd4 = true) :
    Calls Try.prog 19 #[.int .i64 kind, .int .i64 many] w (RetBB (kidsOk kind many) w) := by
  have HK : Hid (kidsOk kind many = decide (1 ≤ many)) := by show kidsOk kind many = _; unfold kidsOk; simp [h1, h2, h3, h4]
  go_enter Try.func19, Try.ntmps19
  go_wp2_with (first
    | (refine wpList_buildFlat rfl 35 3 4 _ rfl .i64 kd1 (by kernel_rfl) (by kernel_rfl) (by kernel_rfl) rfl (by decide) (by decide) rfl ?_)
    | (refine wpList_buildFlat rfl 35 3 11 _ rfl .i64 kd2 (by kernel_rfl) (by kernel_rfl) (by kernel_rfl) rfl (by decide) (by decide) rfl ?_)
    | (refine wpList_buildFlat rfl 35 3 6 _ rfl .i64 kd3 (by kernel_rfl) (by kernel_rfl) (by kernel_rfl) rfl (by decide) (by decide) rfl ?_)
    | (refine wpList_buildFlat rfl 35 3 3 _ rfl .i64 kd4 (by kernel_rfl) (by kernel_rfl) (by kernel_rfl) rfl (by decide) (by decide) rfl ?_)
    | (go_at_call 26; (with_reducible refine (in_anyN _ 4 4 kind kd1 _ ?_ ?_ ?_).mono ?_); rfl; decide; exact RdI.newAt _ .i64 kd1 3 _ (by simp); rintro e w' ⟨rfl, rfl⟩)
    | (go_at_call 26; (with_reducible refine (in_anyN _ 11 11 kind kd2 _ ?_ ?_ ?_).mono ?_); rfl; decide; exact RdI.newAt _ .i64 kd2 3 _ (by simp); rintro e w' ⟨rfl, rfl⟩)
    | (go_at_call 26; (with_reducible refine (in_anyN _ 6 6 kind kd3 _ ?_ ?_ ?_).mono ?_); rfl; decide; exact RdI.newAt _ .i64 kd3 3 _ (by simp); rintro e w' ⟨rfl, rfl⟩)
    | (go_at_call 26; (with_reducible refine (in_anyN _ 3 3 kind kd4 _ ?_ ?_ ?_).mono ?_); rfl; decide; exact RdI.newAt _ .i64 kd4 3 _ (by simp); rintro e w' ⟨rfl, rfl⟩))
  go_ret
  exact ⟨ret_bool HK.out.symm, ((((Below.refl _ _).alloc (by simp) _).alloc (by simp) _).alloc (by simp; omega) _).alloc (by simp; omega) _⟩

set_option maxHeartbeats 400000 in
theorem kids_4 (kind many : Int) (w : World) (h1 : hasI kind kd1 = false) (h2 : hasI kind kd2 = false) (h3 : hasI kind kd3 = false) (h4 : hasI kind kd4 = false) (h5 : (kind == 8) = true) :
    Calls Try.prog 19 #[.int .i64 kind, .int .i64 many] w (RetBB (kidsOk kind many) w) := by
  have HK : Hid (kidsOk kind many = decide (2 ≤ many)) := by show kidsOk kind many = _; unfold kidsOk; simp [h1, h2, h3, h4, h5]
  go_enter Try.func19, Try.ntmps19
  go_wp2_with (first
    | (refine wpList_buildFlat rfl 35 3 4 _ rfl .i64 kd1 (by kernel_rfl) (by kernel_rfl) (by kernel_rfl) rfl (by decide) (by decide) rfl ?_)
    | (refine wpList_buildFlat rfl 35 3 11 _ rfl .i64 kd2 (by kernel_rfl) (by kernel_rfl) (by kernel_rfl) rfl (by decide) (by decide) rfl ?_)
    | (refine wpList_buildFlat rfl 35 3 6 _ rfl .i64 kd3 (by kernel_rfl) (by kernel_rfl) (by kernel_rfl) rfl (by decide) (by decide) rfl ?_)
    | (refine wpList_buildFlat rfl 35 3 3 _ rfl .i64 kd4 (by kernel_rfl) (by kernel_rfl) (by kernel_rfl) rfl (by decide) (by decide) rfl ?_)
    | (go_at_call 26; (with_reducible refine (in_anyN _ 4 4 kind kd1 _ ?_ ?_ ?_).mono ?_); rfl; decide; exact RdI.newAt _ .i64 kd1 3 _ (by simp); rintro e w' ⟨rfl, rfl⟩)
    | (go_at_call 26; (with_reducible refine (in_anyN _ 11 11 kind kd2 _ ?_ ?_ ?_).mono ?_); rfl; decide; exact RdI.newAt _ .i64 kd2 3 _ (by simp); rintro e w' ⟨rfl, rfl⟩)
    | (go_at_call 26; (with_reducible refine (in_anyN _ 6 6 kind kd3 _ ?_ ?_ ?_).mono ?_); rfl; decide; exact RdI.newAt _ .i64 kd3 3 _ (by simp); rintro e w' ⟨rfl, rfl⟩)
    | (go_at_call 26; (with_reducible refine (in_anyN _ 3 3 kind kd4 _ ?_ ?_ ?_).mono ?_); rfl; decide; exact RdI.newAt _ .i64 kd4 3 _ (by simp); rintro e w' ⟨rfl, rfl⟩))
  go_ret
  exact ⟨ret_bool HK.out.symm, ((((Below.refl _ _).alloc (by simp) _).alloc (by simp) _).alloc (by simp; omega) _).alloc (by simp; omega) _⟩

set_option maxHeartbeats 400000 in
theorem kids_5 (kind many : Int) (w : World) (h1 : hasI kind kd1 = false) (h2 : hasI kind kd2 = false) (h3 : hasI kind kd3 = false) (h4 : hasI kind kd4 = false) (h5 : (kind == 8) = false) (h6 : (kind == 28) = true) :
    Calls Try.prog 19 #[.int .i64 kind, .int .i64 many] w (RetBB (kidsOk kind many) w) := by
  have HK : Hid (kidsOk kind many = (many == 4)) := by show kidsOk kind many = _; unfold kidsOk; simp [h1, h2, h3, h4, h5, h6]
  go_enter Try.func19, Try.ntmps19
  go_wp2_with (first
    | (refine wpList_buildFlat rfl 35 3 4 _ rfl .i64 kd1 (by kernel_rfl) (by kernel_rfl) (by kernel_rfl) rfl (by decide) (by decide) rfl ?_)
    | (refine wpList_buildFlat rfl 35 3 11 _ rfl .i64 kd2 (by kernel_rfl) (by kernel_rfl) (by kernel_rfl) rfl (by decide) (by decide) rfl ?_)
    | (refine wpList_buildFlat rfl 35 3 6 _ rfl .i64 kd3 (by kernel_rfl) (by kernel_rfl) (by kernel_rfl) rfl (by decide) (by decide) rfl ?_)
    | (refine wpList_buildFlat rfl 35 3 3 _ rfl .i64 kd4 (by kernel_rfl) (by kernel_rfl) (by kernel_rfl) rfl (by decide) (by decide) rfl ?_)
    | (go_at_call 26; (with_reducible refine (in_anyN _ 4 4 kind kd1 _ ?_ ?_ ?_).mono ?_); rfl; decide; exact RdI.newAt _ .i64 kd1 3 _ (by simp); rintro e w' ⟨rfl, rfl⟩)
    | (go_at_call 26; (with_reducible refine (in_anyN _ 11 11 kind kd2 _ ?_ ?_ ?_).mono ?_); rfl; decide; exact RdI.newAt _ .i64 kd2 3 _ (by simp); rintro e w' ⟨rfl, rfl⟩)
    | (go_at_call 26; (with_reducible refine (in_anyN _ 6 6 kind kd3 _ ?_ ?_ ?_).mono ?_); rfl; decide; exact RdI.newAt _ .i64 kd3 3 _ (by simp); rintro e w' ⟨rfl, rfl⟩)
    | (go_at_call 26; (with_reducible refine (in_anyN _ 3 3 kind kd4 _ ?_ ?_ ?_).mono ?_); rfl; decide; exact RdI.newAt _ .i64 kd4 3 _ (by simp); rintro e w' ⟨rfl, rfl⟩))
  go_ret
  exact ⟨ret_bool HK.out.symm, ((((Below.refl _ _).alloc (by simp) _).alloc (by simp) _).alloc (by simp; omega) _).alloc (by simp; omega) _⟩

set_option maxHeartbeats 400000 in
theorem kids_6 (kind many : Int) (w : World) (h1 : hasI kind kd1 = false) (h2 : hasI kind kd2 = false) (h3 : hasI kind kd3 = false) (h4 : hasI kind kd4 = false) (h5 : (kind == 8) = false) (h6 : (kind == 28) = false) :
    Calls Try.prog 19 #[.int .i64 kind, .int .i64 many] w (RetBB (kidsOk kind many) w) := by
  have HK : Hid (kidsOk kind many = (many == 0)) := by show kidsOk kind many = _; unfold kidsOk; simp [h1, h2, h3, h4, h5, h6]
  go_enter Try.func19, Try.ntmps19
  go_wp2_with (first
    | (refine wpList_buildFlat rfl 35 3 4 _ rfl .i64 kd1 (by kernel_rfl) (by kernel_rfl) (by kernel_rfl) rfl (by decide) (by decide) rfl ?_)
    | (refine wpList_buildFlat rfl 35 3 11 _ rfl .i64 kd2 (by kernel_rfl) (by kernel_rfl) (by kernel_rfl) rfl (by decide) (by decide) rfl ?_)
    | (refine wpList_buildFlat rfl 35 3 6 _ rfl .i64 kd3 (by kernel_rfl) (by kernel_rfl) (by kernel_rfl) rfl (by decide) (by decide) rfl ?_)
    | (refine wpList_buildFlat rfl 35 3 3 _ rfl .i64 kd4 (by kernel_rfl) (by kernel_rfl) (by kernel_rfl) rfl (by decide) (by decide) rfl ?_)
    | (go_at_call 26; (with_reducible refine (in_anyN _ 4 4 kind kd1 _ ?_ ?_ ?_).mono ?_); rfl; decide; exact RdI.newAt _ .i64 kd1 3 _ (by simp); rintro e w' ⟨rfl, rfl⟩)
    | (go_at_call 26; (with_reducible refine (in_anyN _ 11 11 kind kd2 _ ?_ ?_ ?_).mono ?_); rfl; decide; exact RdI.newAt _ .i64 kd2 3 _ (by simp); rintro e w' ⟨rfl, rfl⟩)
    | (go_at_call 26; (with_reducible refine (in_anyN _ 6 6 kind kd3 _ ?_ ?_ ?_).mono ?_); rfl; decide; exact RdI.newAt _ .i64 kd3 3 _ (by simp); rintro e w' ⟨rfl, rfl⟩)
    | (go_at_call 26; (with_reducible refine (in_anyN _ 3 3 kind kd4 _ ?_ ?_ ?_).mono ?_); rfl; decide; exact RdI.newAt _ .i64 kd4 3 _ (by simp); rintro e w' ⟨rfl, rfl⟩))
  go_ret
  exact ⟨ret_bool HK.out.symm, ((((Below.refl _ _).alloc (by simp) _).alloc (by simp) _).alloc (by simp; omega) _).alloc (by simp; omega) _⟩

theorem kids_any (kind many : Int) (w : World) : Calls Try.prog 19 #[.int .i64 kind, .int .i64 many] w (RetBB (kidsOk kind many) w) := by
  cases h1 : hasI kind kd1
  case true => exact kids_0 kind many w h1
  cases h2 : hasI kind kd2
  case true => exact kids_1 kind many w h1 h2
  cases h3 : hasI kind kd3
  case true => exact kids_2 kind many w h1 h2 h3
  cases h4 : hasI kind kd4
  case true => exact kids_3 kind many w h1 h2 h3 h4
  cases h5 : (kind == 8)
  case true => exact kids_4 kind many w h1 h2 h3 h4 h5
  cases h6 : (kind == 28)
  case true => exact kids_5 kind many w h1 h2 h3 h4 h5 h6
  exact kids_6 kind many w h1 h2 h3 h4 h5 h6
end Go.Proofs.Ytlijfkallnomnaa
