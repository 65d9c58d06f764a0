/-
  The law SrcCuts, walked.
-/
import Derived.Test.YtfcjliiemiahkaaLawSpoilt
import Derived.Deep.RegionHeld3
namespace Go.Proofs.Ytfcjliiemiahkaa
open Go.RowKit

/-- What the law asks of the three answers. -/
inductive Three (s t : ByteArray) : Prop
  | both (a : sp s 0 = -1) (b : sp t 0 = -1) (c : sp (s ++ t) 0 = -1)
  | right (k : Nat) (h : k < t.size) (a : sp s 0 = -1) (b : sp t 0 = k) (c : sp (s ++ t) 0 = ((s.size + k : Nat) : Int))
  | left (k : Nat) (h : k < s.size) (a : sp s 0 = k) (c : sp (s ++ t) 0 ≠ -1)
  | late (k : Nat) (h : k < s.size) (a : sp s 0 = k) (h4 : s.size < k + 4) (c : sp (s ++ t) 0 = -1)
theorem three (s t : ByteArray) : Three s t := by
  rcases sp_range s 0 with h | ⟨k, h, _, hk⟩
  · have hb := sp_both s t h
    rcases sp_range t 0 with h' | ⟨j, h', _, hj⟩
    · rw [h', if_pos rfl] at hb
      exact .both h h' hb
    · rw [h', if_neg (by omega)] at hb
      exact .right j hj h h' (by rw [hb]; omega)
  · by_cases hc : sp (s ++ t) 0 = -1
    · refine .late k hk h ?_ hc
      by_cases h4 : k + 4 ≤ s.size
      · have := sp_app_bad s t 0 k h h4
        omega
      · omega
    · exact .left k hk h hc

theorem checkOk {s : ByteArray} (h : s.size ≤ 4000) (h1 : sp s 0 = -1) : checkAt s = 0 ∧ checkNo s = 0 := by
  unfold checkAt checkNo
  have h0 : ¬ 4000 < s.size := by omega
  rw [if_neg h0, if_neg h0, if_pos h1, if_pos h1]
  exact ⟨rfl, rfl⟩
theorem checkBad {s : ByteArray} (h : s.size ≤ 4000) (h1 : sp s 0 ≠ -1) : checkAt s = sp s 0 ∧ checkNo s = 12 := by
  unfold checkAt checkNo
  have h0 : ¬ 4000 < s.size := by omega
  rw [if_neg h0, if_neg h0, if_neg h1, if_neg h1]
  exact ⟨rfl, rfl⟩

set_option maxRecDepth 100000 in
set_option maxHeartbeats 1000000 in
theorem law_cuts (s0 t0 : ByteArray) (i k : Int) (w : World) : Calls Try.prog 5 #[.string s0, .string t0, .int .i64 i, .int .i64 k] w (RetT w) := by
  obtain ⟨n, s, hn, hs, hsz, hn1, hn2⟩ := cut_str s0 1000
  obtain ⟨m, t, hm, ht, htz, hm1, hm2⟩ := cut_str t0 1000
  have hmin1 := min_int 1000 s0.size 1000 rfl
  rw [← hn] at hmin1
  have hmin2 := min_int 1000 t0.size 1000 rfl
  rw [← hm] at hmin2
  have HN := Lib.hid hn; clear hn
  have HS := Lib.hid hs; clear hs
  have HZ := Lib.hid hsz; clear hsz
  have HM := Lib.hid hm; clear hm
  have HT := Lib.hid ht; clear ht
  have HTZ := Lib.hid htz; clear htz
  have hn' : (n : Int) ≤ (s0.size : Int) := by omega
  have hm' : (m : Int) ≤ (t0.size : Int) := by omega
  go_enter Try.func5, Try.ntmps5
  go_wp2
  go_region
  go_wp2_with fail
  rw [HS.out, HT.out]
  have hz := HZ.out
  have hz' := HTZ.out
  have hs4 : s.size ≤ 4000 := by omega
  have ht4 : t.size ≤ 4000 := by omega
  have hst4 : (s ++ t).size ≤ 4000 := by rw [ByteArray.size_append]; omega
  have hB : Hid (s.size ≤ 1000 ∧ t.size ≤ 1000) := by constructor <;> omega
  have B1 := Lib.hid hs4; clear hs4
  have B2 := Lib.hid ht4; clear ht4
  have B3 := Lib.hid hst4; clear hst4
  have H3 := Lib.hid (three s t)
  clear hz hz' hn1 hn2 hn' hm1 hm2 hm' hmin1 hmin2
  refine (check_any s _ (Nat.le_trans B1.out (by decide))).mono ?_
  rintro e w1 ⟨rfl, hb1⟩
  have HB1 := Lib.hid hb1; clear hb1
  go_wp2_with fail
  refine (check_any t _ (Nat.le_trans B2.out (by decide))).mono ?_
  rintro e w2 ⟨rfl, hb2⟩
  have HB2 := Lib.hid hb2; clear hb2
  have hcat : s.size + t.size ≤ 9223372036854775807 := by have := B1.out; have := B2.out; omega
  go_wp2_with fail
  refine (check_any (s ++ t) _ (Nat.le_trans B3.out (by decide))).mono ?_
  rintro e w3 ⟨rfl, hb3⟩
  have HB3 := Lib.hid (bel_trans (bel_refl w).drew (bel_trans (bel_trans HB1.out HB2.out) hb3)); clear hb3 HB1 HB2
  cases H3.out with
  | both a b c =>
    obtain ⟨e1, e2⟩ := checkOk B1.out a
    obtain ⟨e3, e4⟩ := checkOk B2.out b
    obtain ⟨e5, e6⟩ := checkOk B3.out c
    rw [e1, e2, e3, e4, e5, e6]
    clear a b c e1 e2 e3 e4 e5 e6
    go_wp2_with (go_at_call 12; (with_reducible refine (alive_any _).mono ?_); rintro e w4 ⟨rfl, n4, rfl⟩)
    all_goals first
      | (go_ret; exact ⟨rfl, bel_drewN HB3.out _⟩)
      | (have h0 : 0 ≤ i := by assumption
         have h2 : (0 ≤ i ∧ i < k) ∧ k ≤ (s.size : Int) := by assumption
         obtain ⟨i', rfl⟩ := Int.eq_ofNat_of_zero_le h0
         obtain ⟨k', rfl⟩ := Int.eq_ofNat_of_zero_le (by omega : 0 ≤ k)
         have hr := rise s (i := i') (k := k') (by omega)
         refine (place_in s i' _ (by omega) (Nat.le_trans B1.out (by decide))).mono ?_
         rintro e w4 ⟨rfl, rfl⟩
         go_wp2_with fail
         refine (place_in s k' _ (by omega) (Nat.le_trans B1.out (by decide))).mono ?_
         rintro e w4 ⟨rfl, rfl⟩
         rcases hr with hr | ⟨hr, hr'⟩
         · have hr2 : (lineOf s i' : Int) < (lineOf s k' : Int) := by omega
           clear hr
           go_wp2_with (go_at_call 12; (with_reducible refine (alive_any _).mono ?_); rintro e w4 ⟨rfl, n4, rfl⟩)
           go_ret
           exact ⟨rfl, bel_drewN HB3.out _⟩
         · have hr2 : (colOf s i' : Int) < (colOf s k' : Int) := by omega
           rw [hr]
           clear hr hr'
           go_wp2_with (go_at_call 12; (with_reducible refine (alive_any _).mono ?_); rintro e w4 ⟨rfl, n4, rfl⟩)
           go_ret
           exact ⟨rfl, bel_drewN HB3.out _⟩)
  | right j h a b c =>
    obtain ⟨e1, e2⟩ := checkOk B1.out a
    obtain ⟨e3, e4⟩ := checkBad B2.out (by omega)
    obtain ⟨e5, e6⟩ := checkBad B3.out (by omega)
    rw [b] at e3
    rw [c] at e5
    rw [e1, e2, e3, e4, e5, e6]
    have hB1 := hB.out
    have hsum : IntKind.i64.wrap ((s.size : Int) + (j : Int)) = ((s.size + j : Nat) : Int) := by rw [IntKind.wrap_i64]; omega
    clear a b c e1 e2 e3 e4 e5 e6 hB1
    go_wp2_with (go_at_call 12; (with_reducible refine (alive_any _).mono ?_); rintro e w4 ⟨rfl, n4, rfl⟩)
    all_goals first
      | (go_ret; exact ⟨rfl, bel_drewN HB3.out _⟩)
      | (have h0 : 0 ≤ i := by assumption
         have h2 : (0 ≤ i ∧ i < k) ∧ k ≤ (s.size : Int) := by assumption
         obtain ⟨i', rfl⟩ := Int.eq_ofNat_of_zero_le h0
         obtain ⟨k', rfl⟩ := Int.eq_ofNat_of_zero_le (by omega : 0 ≤ k)
         have hr := rise s (i := i') (k := k') (by omega)
         refine (place_in s i' _ (by omega) (Nat.le_trans B1.out (by decide))).mono ?_
         rintro e w4 ⟨rfl, rfl⟩
         go_wp2_with fail
         refine (place_in s k' _ (by omega) (Nat.le_trans B1.out (by decide))).mono ?_
         rintro e w4 ⟨rfl, rfl⟩
         rcases hr with hr | ⟨hr, hr'⟩
         · have hr2 : (lineOf s i' : Int) < (lineOf s k' : Int) := by omega
           clear hr
           go_wp2_with (go_at_call 12; (with_reducible refine (alive_any _).mono ?_); rintro e w4 ⟨rfl, n4, rfl⟩)
           go_ret
           exact ⟨rfl, bel_drewN HB3.out _⟩
         · have hr2 : (colOf s i' : Int) < (colOf s k' : Int) := by omega
           rw [hr]
           clear hr hr'
           go_wp2_with (go_at_call 12; (with_reducible refine (alive_any _).mono ?_); rintro e w4 ⟨rfl, n4, rfl⟩)
           go_ret
           exact ⟨rfl, bel_drewN HB3.out _⟩)
  | left j h a c =>
    obtain ⟨e1, e2⟩ := checkBad B1.out (by omega)
    obtain ⟨e5, e6⟩ := checkBad B3.out c
    rw [e1, e2, e5, e6]
    clear a c e1 e2 e5 e6
    go_wp2_with (go_at_call 12; (with_reducible refine (alive_any _).mono ?_); rintro e w4 ⟨rfl, n4, rfl⟩)
    all_goals first
      | (go_ret; exact ⟨rfl, bel_drewN HB3.out _⟩)
      | (have h0 : 0 ≤ i := by assumption
         have h2 : (0 ≤ i ∧ i < k) ∧ k ≤ (s.size : Int) := by assumption
         obtain ⟨i', rfl⟩ := Int.eq_ofNat_of_zero_le h0
         obtain ⟨k', rfl⟩ := Int.eq_ofNat_of_zero_le (by omega : 0 ≤ k)
         have hr := rise s (i := i') (k := k') (by omega)
         refine (place_in s i' _ (by omega) (Nat.le_trans B1.out (by decide))).mono ?_
         rintro e w4 ⟨rfl, rfl⟩
         go_wp2_with fail
         refine (place_in s k' _ (by omega) (Nat.le_trans B1.out (by decide))).mono ?_
         rintro e w4 ⟨rfl, rfl⟩
         rcases hr with hr | ⟨hr, hr'⟩
         · have hr2 : (lineOf s i' : Int) < (lineOf s k' : Int) := by omega
           clear hr
           go_wp2_with (go_at_call 12; (with_reducible refine (alive_any _).mono ?_); rintro e w4 ⟨rfl, n4, rfl⟩)
           go_ret
           exact ⟨rfl, bel_drewN HB3.out _⟩
         · have hr2 : (colOf s i' : Int) < (colOf s k' : Int) := by omega
           rw [hr]
           clear hr hr'
           go_wp2_with (go_at_call 12; (with_reducible refine (alive_any _).mono ?_); rintro e w4 ⟨rfl, n4, rfl⟩)
           go_ret
           exact ⟨rfl, bel_drewN HB3.out _⟩)
  | late j h a h4 c =>
    obtain ⟨e1, e2⟩ := checkBad B1.out (by omega)
    obtain ⟨e5, e6⟩ := checkOk B3.out c
    rw [a] at e1
    rw [e1, e2, e5, e6]
    have hB1 := hB.out
    have hsum : IntKind.i64.wrap ((j : Int) + 4) = ((j + 4 : Nat) : Int) := by rw [IntKind.wrap_i64]; omega
    clear a c e1 e2 e5 e6 hB1
    go_wp2_with (go_at_call 12; (with_reducible refine (alive_any _).mono ?_); rintro e w4 ⟨rfl, n4, rfl⟩)
    all_goals first
      | (exfalso; omega)
      | (go_ret; exact ⟨rfl, bel_drewN HB3.out _⟩)
      | (have h0 : 0 ≤ i := by assumption
         have h2 : (0 ≤ i ∧ i < k) ∧ k ≤ (s.size : Int) := by assumption
         obtain ⟨i', rfl⟩ := Int.eq_ofNat_of_zero_le h0
         obtain ⟨k', rfl⟩ := Int.eq_ofNat_of_zero_le (by omega : 0 ≤ k)
         have hr := rise s (i := i') (k := k') (by omega)
         refine (place_in s i' _ (by omega) (Nat.le_trans B1.out (by decide))).mono ?_
         rintro e w4 ⟨rfl, rfl⟩
         go_wp2_with fail
         refine (place_in s k' _ (by omega) (Nat.le_trans B1.out (by decide))).mono ?_
         rintro e w4 ⟨rfl, rfl⟩
         rcases hr with hr | ⟨hr, hr'⟩
         · have hr2 : (lineOf s i' : Int) < (lineOf s k' : Int) := by omega
           clear hr
           go_wp2_with (go_at_call 12; (with_reducible refine (alive_any _).mono ?_); rintro e w4 ⟨rfl, n4, rfl⟩)
           go_ret
           exact ⟨rfl, bel_drewN HB3.out _⟩
         · have hr2 : (colOf s i' : Int) < (colOf s k' : Int) := by omega
           rw [hr]
           clear hr hr'
           go_wp2_with (go_at_call 12; (with_reducible refine (alive_any _).mono ?_); rintro e w4 ⟨rfl, n4, rfl⟩)
           go_ret
           exact ⟨rfl, bel_drewN HB3.out _⟩)
end Go.Proofs.Ytfcjliiemiahkaa
