/-
  The law AstRight, walked.
-/
import Derived.Test.YtlijfkallnomnaaAlive
import Derived.Test.YtlijfkallnomnaaFew
import Derived.Test.YtlijfkallnomnaaRefLike
namespace Go.Proofs.Ytlijfkallnomnaa
open Go.RowKit

theorem likeL_self (L : List Nd) : likeL L L = true := by
  induction L with
  | nil => rfl
  | cons x r ih => simp [likeL, likeNd, ih]

set_option maxRecDepth 100000 in
set_option maxHeartbeats 400000 in
theorem law_right (A A' : Option Addr) (cap cap' : Nat) (L M : List Nd) (w : World) (h : NdsRb maxLen w A L) (h' : NdsRb maxLen w A' M) (hc : L.length ≤ cap) (hc' : M.length ≤ cap') :
    Calls Try.prog 3 #[.slice A L.length cap, .slice A' M.length cap'] w (RetT w) := by
  have H := Lib.hid h; clear h
  have H' := Lib.hid h'; clear h'
  go_enter Try.func3, Try.ntmps3
  go_wp2_with fail
  refine (few_any A cap L _ H.out hc).mono ?_
  rintro e w1 ⟨A1, c1, rfl, hc1, hn1, hb1⟩
  have HN1 := Lib.hid hn1; clear hn1
  have HB1 := Lib.hid hb1; clear hb1
  go_wp2_with fail
  refine (few_any A' cap' M _ (H'.out.below HB1.out) hc').mono ?_
  rintro e w2 ⟨A2, c2, rfl, hc2, hn2, hb2⟩
  have HN2 := Lib.hid hn2; clear hn2
  have HB2 := Lib.hid hb2; clear hb2
  go_wp2_with fail
  refine (alive_any _).mono ?_
  rintro e w3 ⟨rfl, hb3⟩
  have HB3 := Lib.hid hb3; clear hb3
  have HL3 := Lib.hid (HN1.out.below (bel_trans HB2.out HB3.out))
  have HM3 := Lib.hid (HN2.out.below HB3.out)
  go_wp2_with fail
  refine (right_any A1 c1 (fewL L) _ HL3.out).mono ?_
  rintro e w4 ⟨rfl, hb4⟩
  have HB4 := Lib.hid hb4; clear hb4
  go_wp2_with fail
  refine (refRight_any A1 c1 (fewL L) _ (HL3.out.below HB4.out)).mono ?_
  rintro e w5 ⟨rfl, hb5⟩
  have HB5 := Lib.hid hb5; clear hb5
  rw [trees_same]
  have HL5 := Lib.hid (HL3.out.below (bel_trans HB4.out HB5.out))
  have HM5 := Lib.hid (HM3.out.below (bel_trans HB4.out HB5.out))
  have e1 : (isTree (fewL L) == isTree (fewL L)) = true := by simp
  go_wp2_with fail
  refine (like_any A1 A2 c1 c2 (fewL L) (fewL M) _ HL5.out HM5.out).mono ?_
  rintro e w6 ⟨rfl, hb6⟩
  have HB6 := Lib.hid hb6; clear hb6
  go_wp2_with fail
  refine (refLike_any A1 A2 c1 c2 (fewL L) (fewL M) _ (HL5.out.below HB6.out) (HM5.out.below HB6.out)).mono ?_
  rintro e w7 ⟨rfl, n, rfl⟩
  have HL7 := Lib.hid (HL5.out.below (bel_drewN HB6.out n))
  have e2 : (likeL (fewL L) (fewL M) == likeL (fewL L) (fewL M)) = true := by simp
  go_wp2_with fail
  refine (like_any A1 A1 c1 c1 (fewL L) (fewL L) _ HL7.out HL7.out).mono ?_
  rintro e w8 ⟨rfl, hb8⟩
  have HB8 := Lib.hid hb8; clear hb8
  rw [likeL_self]
  go_wp2
  go_ret
  exact ⟨rfl, bel_trans (bel_trans (bel_trans (bel_trans (bel_trans (bel_trans HB1.out HB2.out) HB3.out) HB4.out) HB5.out) (bel_drewN HB6.out n)) HB8.out⟩
end Go.Proofs.Ytlijfkallnomnaa
