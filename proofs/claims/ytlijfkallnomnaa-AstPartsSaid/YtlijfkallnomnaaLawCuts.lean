/-
  The law AstCuts, walked.
-/
import Derived.Test.YtlijfkallnomnaaCut
import Derived.Test.YtlijfkallnomnaaLawRight
namespace Go.Proofs.Ytlijfkallnomnaa
open Go.RowKit

def RetNilE (c : Int) (w : World) (e : Ending) (w' : World) : Prop := e = .returned (.tuple #[.slice none 0 0, .int .i64 c]) ∧ Below w.heap.size w w'

set_option maxRecDepth 100000 in
theorem deep_bad (A : Option Addr) (cap : Nat) (L : List Nd) (w : World) (h : NdsR w A L) (ht : isTree L = false) :
    Calls Try.prog 12 #[.slice A L.length cap] w (RetIE 0 1 w) := by
  have H := Lib.hid h; clear h
  have HT := Lib.hid ht; clear ht
  go_enter Try.func12, Try.ntmps12
  go_wp2_with fail
  refine (right_any A cap L _ H.out).mono ?_
  rintro e w1 ⟨rfl, hb1⟩
  rw [HT.out]
  have HB1 := Lib.hid hb1; clear hb1
  go_wp2
  go_ret2
  exact ⟨rfl, HB1.out⟩

set_option maxRecDepth 100000 in
theorem cut_bad (A : Option Addr) (cap : Nat) (L : List Nd) (i : Int) (w : World) (h : NdsR w A L) (ht : isTree L = false) :
    Calls Try.prog 13 #[.slice A L.length cap, .int .i64 i] w (RetNilE 1 w) := by
  have H := Lib.hid h; clear h
  have HT := Lib.hid ht; clear ht
  go_enter Try.func13, Try.ntmps13
  go_wp2_with fail
  refine (right_any A cap L _ (H.out.below (bel_alloc (bel_refl _) _))).mono ?_
  rintro e w1 ⟨rfl, hb1⟩
  rw [HT.out]
  have HB1 := Lib.hid hb1; clear hb1
  go_wp2
  go_ret2
  exact ⟨rfl, bel_trans (bel_alloc (bel_refl _) _) HB1.out⟩

set_option maxRecDepth 100000 in
theorem cut_out (A : Option Addr) (cap : Nat) (L : List Nd) (i : Int) (w : World) (h : NdsR w A L) (ht : isTree L = true) (hi : i < 0 ∨ (L.length : Int) ≤ i) :
    Calls Try.prog 13 #[.slice A L.length cap, .int .i64 i] w (RetNilE 8 w) := by
  have H := Lib.hid h; clear h
  have HT := Lib.hid ht; clear ht
  have hc : i < 0 ∨ (0 ≤ i ∧ (L.length : Int) ≤ i) := by omega
  clear hi
  rcases hc with h0 | ⟨h0, h1⟩
  all_goals
    go_enter Try.func13, Try.ntmps13
    go_wp2_with fail
    refine (right_any A cap L _ (H.out.below (bel_alloc (bel_refl _) _))).mono ?_
    rintro e w1 ⟨rfl, hb1⟩
    rw [HT.out]
    have hcl : w1.cell? ⟨w.heap.size, 0, none⟩ = some (.slice A L.length cap) := (hb1.cell (p := ⟨w.heap.size, 0, none⟩) (by simp)).trans (by simp [go_sem])
    have hwl : w.heap.size < w1.heap.size := by have := hb1.size; simp at this; omega
    have HB1 := Lib.hid hb1; clear hb1
    go_wp2
    go_ret2
    exact ⟨rfl, bel_trans (bel_alloc (bel_refl _) _) HB1.out⟩

/-- What hangs on the data alone. -/
theorem likeL_dat (L M : List Nd) : likeL (L.map Nd.dat) (M.map Nd.dat) = likeL L M := by
  induction L generalizing M with
  | nil => cases M <;> rfl
  | cons x r ih => cases M with
    | nil => rfl
    | cons y s => simp only [List.map_cons, likeL, ih]; rfl
theorem atsOk_dat (L M : List Nd) : atsOk (L.map Nd.dat) (M.map Nd.dat) = atsOk L M := by
  induction L generalizing M with
  | nil => rfl
  | cons x r ih => cases M with
    | nil => rfl
    | cons y s => simp only [List.map_cons, atsOk, ih]; rfl
theorem atsOk_self (L : List Nd) : atsOk L L = true := by
  induction L with
  | nil => rfl
  | cons x r ih => simp [atsOk, ih]
theorem same_dat {L M : List Nd} (h : L.map Nd.dat = M.map Nd.dat) : (atsOk L M && likeL L M) = true := by
  rw [← atsOk_dat, ← likeL_dat, h, atsOk_self, likeL_self]; rfl
theorem fewL_kids (L : List Nd) : ∀ nd, nd ∈ fewL L → nd.kids.length ≤ 2000 := by
  intro nd hnd
  obtain ⟨x, _, rfl⟩ := List.mem_map.1 hnd
  simp [fewNd]
  omega

set_option maxRecDepth 100000 in
set_option maxHeartbeats 400000 in
theorem law_cuts (A : Option Addr) (cap : Nat) (L : List Nd) (i : Int) (w : World) (h : NdsRb maxLen w A L) (hc : L.length ≤ cap) :
    Calls Try.prog 4 #[.slice A L.length cap, .int .i64 i] w (RetT w) := by
  have H := Lib.hid h; clear h
  cases ht : isTree (fewL L)
  case false =>
    have HT := Lib.hid ht; clear ht
    go_enter Try.func4, Try.ntmps4
    go_wp2_with fail
    refine (few_any A cap L _ H.out hc).mono ?_
    rintro e w1 ⟨A1, c1, rfl, hc1, hn1, hb1⟩
    have HN1 := Lib.hid hn1; clear hn1
    have HB1 := Lib.hid hb1; clear hb1
    go_wp2_with fail
    refine (deep_bad A1 c1 (fewL L) _ HN1.out HT.out).mono ?_
    rintro e w2 ⟨rfl, hb2⟩
    have HB2 := Lib.hid hb2; clear hb2
    go_wp2_with fail
    refine (cut_bad A1 c1 (fewL L) i _ (HN1.out.below HB2.out) HT.out).mono ?_
    rintro e w3 ⟨rfl, hb3⟩
    have HB3 := Lib.hid hb3; clear hb3
    go_wp2_with fail
    refine (refRight_any A1 c1 (fewL L) _ (HN1.out.below (bel_trans HB2.out HB3.out))).mono ?_
    rintro e w4 ⟨rfl, hb4⟩
    have HB4 := Lib.hid hb4; clear hb4
    rw [trees_same, HT.out]
    go_wp2_with fail
    refine (alive_any _).mono ?_
    rintro e w5 ⟨rfl, hb5⟩
    have HB5 := Lib.hid hb5; clear hb5
    go_wp2
    go_ret
    exact ⟨rfl, bel_trans (bel_trans (bel_trans (bel_trans HB1.out HB2.out) HB3.out) HB4.out) HB5.out⟩
  case true =>
    have ht' := (isTree_iff _).1 ht
    have hl1 := ht'.len.1
    have hl2 := ht'.len.2
    have HP := Lib.hid ht'; clear ht'
    have HT := Lib.hid ht; clear ht
    have elast : Hid ((((fewL L).length - 1 : Nat) : Int) = ((fewL L).length : Int) - 1) := by show _ = _; omega
    by_cases hi : i < 0 ∨ ((fewL L).length : Int) ≤ i
    · have HI := Lib.hid hi
      have hcs : i < 0 ∨ (0 ≤ i ∧ ((fewL L).length : Int) ≤ i) := by omega
      clear hi
      rcases hcs with h0 | ⟨h0, h1⟩
      all_goals
        go_enter Try.func4, Try.ntmps4
        go_wp2_with fail
        refine (few_any A cap L _ H.out hc).mono ?_
        rintro e w1 ⟨A1, c1, rfl, hc1, hn1, hb1⟩
        have HN1 := Lib.hid hn1; clear hn1
        have HB1 := Lib.hid hb1; clear hb1
        go_wp2_with fail
        refine (deep_tree A1 c1 (fewL L) _ HN1.out HT.out HP.out.kids hl1 hl2).mono ?_
        rintro e w2 ⟨rfl, hb2⟩
        have HB2 := Lib.hid hb2; clear hb2
        go_wp2_with fail
        refine (cut_out A1 c1 (fewL L) i _ (HN1.out.below HB2.out) HT.out HI.out).mono ?_
        rintro e w3 ⟨rfl, hb3⟩
        have HB3 := Lib.hid hb3; clear hb3
        go_wp2_with fail
        refine (refRight_any A1 c1 (fewL L) _ (HN1.out.below (bel_trans HB2.out HB3.out))).mono ?_
        rintro e w4 ⟨rfl, hb4⟩
        have HB4 := Lib.hid hb4; clear hb4
        rw [trees_same, HT.out]
        go_wp2_with fail
        rw [← elast.out]
        refine (refDeep_any A1 c1 (fewL L) _ (HN1.out.below (bel_trans (bel_trans HB2.out HB3.out) HB4.out)) HP.out.kids ((fewL L).length - 1) (by omega)).mono ?_
        rintro e w5 ⟨rfl, rfl⟩
        have e1 : (dep (fewL L) ((fewL L).length - 1) != dep (fewL L) ((fewL L).length - 1)) = false := by simp
        go_wp2_with fail
        refine (alive_any _).mono ?_
        rintro e w6 ⟨rfl, hb6⟩
        have HB6 := Lib.hid hb6; clear hb6
        go_wp2
        go_ret
        exact ⟨rfl, bel_trans (bel_trans (bel_trans (bel_trans HB1.out HB2.out) HB3.out) HB4.out) HB6.out⟩
    · have h0 : 0 ≤ i := by omega
      have h1 : i < (fewL L).length := by omega
      clear hi
      obtain ⟨j, rfl⟩ := Int.eq_ofNat_of_zero_le h0
      have h1' : j < (fewL L).length := by omega
      go_enter Try.func4, Try.ntmps4
      go_wp2_with fail
      refine (few_any A cap L _ H.out hc).mono ?_
      rintro e w1 ⟨A1, c1, rfl, hc1, hn1, hb1⟩
      have HN1 := Lib.hid hn1; clear hn1
      have HB1 := Lib.hid hb1; clear hb1
      go_wp2_with fail
      refine (deep_tree A1 c1 (fewL L) _ HN1.out HT.out HP.out.kids hl1 hl2).mono ?_
      rintro e w2 ⟨rfl, hb2⟩
      have HB2 := Lib.hid hb2; clear hb2
      go_wp2_with fail
      refine (cut_tree A1 c1 (fewL L) HP.out hc1 j h1' _ (HN1.out.below HB2.out) (fewL_kids L)).mono ?_
      rintro e w3 ⟨A3, c3, M, rfl, hc3, hn3, hd3, hb3⟩
      have HN3 := Lib.hid hn3; clear hn3
      have HD3 := Lib.hid hd3; clear hd3
      have HB3 := Lib.hid hb3; clear hb3
      go_wp2_with fail
      refine (refRight_any A1 c1 (fewL L) _ (HN1.out.below (bel_trans HB2.out HB3.out))).mono ?_
      rintro e w4 ⟨rfl, hb4⟩
      have HB4 := Lib.hid hb4; clear hb4
      rw [trees_same, HT.out]
      go_wp2_with fail
      rw [← elast.out]
      refine (refDeep_any A1 c1 (fewL L) _ (HN1.out.below (bel_trans (bel_trans HB2.out HB3.out) HB4.out)) HP.out.kids ((fewL L).length - 1) (by omega)).mono ?_
      rintro e w5 ⟨rfl, rfl⟩
      have e1 : (dep (fewL L) ((fewL L).length - 1) != dep (fewL L) ((fewL L).length - 1)) = false := by simp
      go_wp2_with fail
      refine (alive_any _).mono ?_
      rintro e w6 ⟨rfl, hb6⟩
      have HB6 := Lib.hid hb6; clear hb6
      go_wp2_with fail
      refine (refCut_any A1 c1 (fewL L) HP.out.kids (parts_fit HP.out) hl2 j h1' _ (HN1.out.below (bel_trans (bel_trans (bel_trans HB2.out HB3.out) HB4.out) HB6.out)) (fewL_kids L)).mono ?_
      rintro e w7 ⟨A7, c7, M7, rfl, hc7, hn7, hd7, hb7⟩
      have HN7 := Lib.hid hn7; clear hn7
      have HB7 := Lib.hid hb7; clear hb7
      have hml : M.length = M7.length := by
        have h1 := congrArg List.length (HD3.out.trans hd7.symm)
        rw [List.length_map, List.length_map] at h1
        exact h1
      have hs : Hid ((atsOk M M7 && likeL M M7) = true) := same_dat (HD3.out.trans hd7.symm)
      have e2 : ((M.length : Int) == (M7.length : Int)) = true := by rw [hml]; simp
      clear hml hd7
      go_wp2_with fail
      refine (refSame_any A3 A7 c3 c7 M M7 _ (HN3.out.below (bel_trans (bel_trans HB4.out HB6.out) HB7.out)) HN7.out).mono ?_
      rintro e w8 ⟨rfl, n, rfl⟩
      rw [hs.out]
      go_wp2
      go_ret
      exact ⟨rfl, bel_drewN (bel_trans (bel_trans (bel_trans (bel_trans (bel_trans HB1.out HB2.out) HB3.out) HB4.out) HB6.out) HB7.out) n⟩
end Go.Proofs.Ytlijfkallnomnaa
