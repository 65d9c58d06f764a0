/-
  The law SrcPlaces, walked.
-/
import Derived.Test.YtfcjliiemiahkaaLawSpoilt
import Derived.Deep.RegionHeld3
namespace Go.Proofs.Ytfcjliiemiahkaa
open Go.RowKit

theorem pub_cases (t : ByteArray) : (name t = false ∧ pubB t = false) ∨ (name t = true ∧ 0 < t.size ∧ ((bt t 0 < 65 ∧ pubB t = false) ∨ (65 ≤ bt t 0 ∧ 90 < bt t 0 ∧ pubB t = false) ∨ (65 ≤ bt t 0 ∧ bt t 0 ≤ 90 ∧ pubB t = true))) := by
  unfold pubB
  cases h : name t
  · exact .inl ⟨rfl, rfl⟩
  · refine .inr ⟨rfl, name_size h, ?_⟩
    by_cases h1 : bt t 0 < 65
    · left; simp; omega
    · by_cases h2 : bt t 0 ≤ 90
      · right; right; simp; omega
      · right; left; simp; omega

set_option maxRecDepth 100000 in
set_option maxHeartbeats 1000000 in
theorem law_places (s0 : ByteArray) (at_ c : Int) (t0 : ByteArray) (w : World) : Calls Try.prog 3 #[.string s0, .int .i64 at_, .int .u8 c, .string t0] w (RetT w) := by
  obtain ⟨n, s, hn, hs, hsz, hn1, hn2⟩ := cut_str s0 4010
  obtain ⟨m, t, hm, ht, htz, hm1, hm2⟩ := cut_str t0 30
  have hmin1 := min_int 4010 s0.size 4010 rfl
  rw [← hn] at hmin1
  have hmin2 := min_int 30 t0.size 30 rfl
  rw [← hm] at hmin2
  have HN := Lib.hid hn; clear hn
  have HS := Lib.hid hs; clear hs
  have HZ := Lib.hid hsz; clear hsz
  have HM := Lib.hid hm; clear hm
  have HT := Lib.hid ht; clear ht
  have HTZ := Lib.hid htz; clear htz
  have hn' : (n : Int) ≤ (s0.size : Int) := by omega
  have hm' : (m : Int) ≤ (t0.size : Int) := by omega
  go_enter Try.func3, Try.ntmps3
  go_wp2
  go_region
  go_wp2_with fail
  rw [HS.out, HT.out]
  have hz := HZ.out
  have hz' := HTZ.out
  have hsb : s.size ≤ 4611686018427387900 := by omega
  have htb : t.size ≤ 4611686018427387900 := by omega
  have B1 := Lib.hid hsb; clear hsb
  have B2 := Lib.hid htb; clear htb
  clear hz hz' hn1 hn2 hn' hm1 hm2 hm' hmin1 hmin2
  by_cases hat : at_ < 0 ∨ (0 ≤ at_ ∧ (s.size : Int) < at_)
  · have HK : Hid (0 ≤ s.size) := Lib.hid (Nat.zero_le _)
    have HA := Lib.hid hat
    refine (place_out s at_ _ HA.out).mono ?_
    rintro e w1 ⟨rfl, rfl⟩
    rcases pub_cases t with ⟨hn, hp⟩ | ⟨hn, h0, hp⟩
    · have hnm := Lib.hid hn; clear hn
      have hpub := Lib.hid hp; clear hp
      rcases hat with h | ⟨h0, h⟩
      all_goals
        go_wp2_with first
            | (go_at_call 7; (with_reducible refine (refName_any _ _ B2.out).mono ?_); rintro e w4 ⟨rfl, n4, rfl⟩; rw [hnm.out])
            | (go_at_call 10; (with_reducible refine (srcName_any _ _ B2.out).mono ?_); rintro e w4 ⟨rfl, n4, rfl⟩; rw [hnm.out])
            | (go_at_call 8; (with_reducible refine (letter_any _ _).mono ?_); rintro e w4 ⟨rfl, rfl⟩)
            | (go_at_call 9; (with_reducible refine (refLetter_any _ _).mono ?_); rintro e w4 ⟨rfl, rfl⟩)
            | (go_at_call 11; (with_reducible refine (public_any _ _ B2.out).mono ?_); rintro e w4 ⟨rfl, n4, rfl⟩; rw [hpub.out])
            | (go_at_call 12; (with_reducible refine (alive_any _).mono ?_); rintro e w4 ⟨rfl, n4, rfl⟩)
            | (go_at_call 13; (with_reducible refine (refPlace_any _ _ _ ?_ B1.out).mono ?_); exact HK.out; rintro e w4 ⟨rfl, hb4⟩; have HB4 := Lib.hid hb4; clear hb4)
        all_goals
          go_ret
          exact ⟨rfl, bel_drewN (bel_refl _) _⟩
    · have hnm := Lib.hid hn; clear hn
      have h0' : (0 : Int) < (t.size : Int) := by omega
      have hb := bt_get t h0
      obtain ⟨b, hbt⟩ : ∃ b, b = bt t 0 := ⟨_, rfl⟩
      rw [← hbt] at hb hp
      have HB := Lib.hid hbt; clear hbt
      rcases hp with ⟨hb1, hp⟩ | ⟨hb1, hb2, hp⟩ | ⟨hb1, hb2, hp⟩
      · have hb1' : (b : Int) < 65 := by omega
        have hpub := Lib.hid hp; clear hp
        rcases hat with h | ⟨h0, h⟩
        all_goals
          go_wp2_with first
              | (go_at_call 7; (with_reducible refine (refName_any _ _ B2.out).mono ?_); rintro e w4 ⟨rfl, n4, rfl⟩; rw [hnm.out])
              | (go_at_call 10; (with_reducible refine (srcName_any _ _ B2.out).mono ?_); rintro e w4 ⟨rfl, n4, rfl⟩; rw [hnm.out])
              | (go_at_call 8; (with_reducible refine (letter_any _ _).mono ?_); rintro e w4 ⟨rfl, rfl⟩)
              | (go_at_call 9; (with_reducible refine (refLetter_any _ _).mono ?_); rintro e w4 ⟨rfl, rfl⟩)
              | (go_at_call 11; (with_reducible refine (public_any _ _ B2.out).mono ?_); rintro e w4 ⟨rfl, n4, rfl⟩; rw [hpub.out])
              | (go_at_call 12; (with_reducible refine (alive_any _).mono ?_); rintro e w4 ⟨rfl, n4, rfl⟩)
              | (go_at_call 13; (with_reducible refine (refPlace_any _ _ _ ?_ B1.out).mono ?_); exact HK.out; rintro e w4 ⟨rfl, hb4⟩; have HB4 := Lib.hid hb4; clear hb4)
          all_goals
            go_ret
            exact ⟨rfl, bel_drewN (bel_refl _) _⟩
      · have hb1' : (65 : Int) ≤ (b : Int) := by omega
        have hb2' : (90 : Int) < (b : Int) := by omega
        have hpub := Lib.hid hp; clear hp
        rcases hat with h | ⟨h0, h⟩
        all_goals
          go_wp2_with first
              | (go_at_call 7; (with_reducible refine (refName_any _ _ B2.out).mono ?_); rintro e w4 ⟨rfl, n4, rfl⟩; rw [hnm.out])
              | (go_at_call 10; (with_reducible refine (srcName_any _ _ B2.out).mono ?_); rintro e w4 ⟨rfl, n4, rfl⟩; rw [hnm.out])
              | (go_at_call 8; (with_reducible refine (letter_any _ _).mono ?_); rintro e w4 ⟨rfl, rfl⟩)
              | (go_at_call 9; (with_reducible refine (refLetter_any _ _).mono ?_); rintro e w4 ⟨rfl, rfl⟩)
              | (go_at_call 11; (with_reducible refine (public_any _ _ B2.out).mono ?_); rintro e w4 ⟨rfl, n4, rfl⟩; rw [hpub.out])
              | (go_at_call 12; (with_reducible refine (alive_any _).mono ?_); rintro e w4 ⟨rfl, n4, rfl⟩)
              | (go_at_call 13; (with_reducible refine (refPlace_any _ _ _ ?_ B1.out).mono ?_); exact HK.out; rintro e w4 ⟨rfl, hb4⟩; have HB4 := Lib.hid hb4; clear hb4)
          all_goals
            go_ret
            exact ⟨rfl, bel_drewN (bel_refl _) _⟩
      · have hb1' : (65 : Int) ≤ (b : Int) := by omega
        have hb2' : (b : Int) ≤ 90 := by omega
        have hpub := Lib.hid hp; clear hp
        rcases hat with h | ⟨h0, h⟩
        all_goals
          go_wp2_with first
              | (go_at_call 7; (with_reducible refine (refName_any _ _ B2.out).mono ?_); rintro e w4 ⟨rfl, n4, rfl⟩; rw [hnm.out])
              | (go_at_call 10; (with_reducible refine (srcName_any _ _ B2.out).mono ?_); rintro e w4 ⟨rfl, n4, rfl⟩; rw [hnm.out])
              | (go_at_call 8; (with_reducible refine (letter_any _ _).mono ?_); rintro e w4 ⟨rfl, rfl⟩)
              | (go_at_call 9; (with_reducible refine (refLetter_any _ _).mono ?_); rintro e w4 ⟨rfl, rfl⟩)
              | (go_at_call 11; (with_reducible refine (public_any _ _ B2.out).mono ?_); rintro e w4 ⟨rfl, n4, rfl⟩; rw [hpub.out])
              | (go_at_call 12; (with_reducible refine (alive_any _).mono ?_); rintro e w4 ⟨rfl, n4, rfl⟩)
              | (go_at_call 13; (with_reducible refine (refPlace_any _ _ _ ?_ B1.out).mono ?_); exact HK.out; rintro e w4 ⟨rfl, hb4⟩; have HB4 := Lib.hid hb4; clear hb4)
          all_goals
            go_ret
            exact ⟨rfl, bel_drewN (bel_refl _) _⟩
  · have h0 : 0 ≤ at_ := by omega
    have h2 : at_ ≤ (s.size : Int) := by omega
    clear hat
    obtain ⟨k, rfl⟩ := Int.eq_ofNat_of_zero_le h0
    have hk : k ≤ s.size := by omega
    have HK := Lib.hid hk; clear hk
    refine (place_in s k _ HK.out B1.out).mono ?_
    rintro e w1 ⟨rfl, rfl⟩
    rcases pub_cases t with ⟨hn, hp⟩ | ⟨hn, h0, hp⟩
    · have hnm := Lib.hid hn; clear hn
      have hpub := Lib.hid hp; clear hp
      go_wp2_with first
          | (go_at_call 7; (with_reducible refine (refName_any _ _ B2.out).mono ?_); rintro e w4 ⟨rfl, n4, rfl⟩; rw [hnm.out])
          | (go_at_call 10; (with_reducible refine (srcName_any _ _ B2.out).mono ?_); rintro e w4 ⟨rfl, n4, rfl⟩; rw [hnm.out])
          | (go_at_call 8; (with_reducible refine (letter_any _ _).mono ?_); rintro e w4 ⟨rfl, rfl⟩)
          | (go_at_call 9; (with_reducible refine (refLetter_any _ _).mono ?_); rintro e w4 ⟨rfl, rfl⟩)
          | (go_at_call 11; (with_reducible refine (public_any _ _ B2.out).mono ?_); rintro e w4 ⟨rfl, n4, rfl⟩; rw [hpub.out])
          | (go_at_call 12; (with_reducible refine (alive_any _).mono ?_); rintro e w4 ⟨rfl, n4, rfl⟩)
          | (go_at_call 13; (with_reducible refine (refPlace_any _ _ _ ?_ B1.out).mono ?_); exact HK.out; rintro e w4 ⟨rfl, hb4⟩; have HB4 := Lib.hid hb4; clear hb4)
      all_goals
        go_ret
        exact ⟨rfl, bel_alloc (bel_trans (bel_drewN (bel_refl w) _) HB4.out) _⟩
    · have hnm := Lib.hid hn; clear hn
      have h0' : (0 : Int) < (t.size : Int) := by omega
      have hb := bt_get t h0
      obtain ⟨b, hbt⟩ : ∃ b, b = bt t 0 := ⟨_, rfl⟩
      rw [← hbt] at hb hp
      have HB := Lib.hid hbt; clear hbt
      rcases hp with ⟨hb1, hp⟩ | ⟨hb1, hb2, hp⟩ | ⟨hb1, hb2, hp⟩
      · have hb1' : (b : Int) < 65 := by omega
        have hpub := Lib.hid hp; clear hp
        go_wp2_with first
            | (go_at_call 7; (with_reducible refine (refName_any _ _ B2.out).mono ?_); rintro e w4 ⟨rfl, n4, rfl⟩; rw [hnm.out])
            | (go_at_call 10; (with_reducible refine (srcName_any _ _ B2.out).mono ?_); rintro e w4 ⟨rfl, n4, rfl⟩; rw [hnm.out])
            | (go_at_call 8; (with_reducible refine (letter_any _ _).mono ?_); rintro e w4 ⟨rfl, rfl⟩)
            | (go_at_call 9; (with_reducible refine (refLetter_any _ _).mono ?_); rintro e w4 ⟨rfl, rfl⟩)
            | (go_at_call 11; (with_reducible refine (public_any _ _ B2.out).mono ?_); rintro e w4 ⟨rfl, n4, rfl⟩; rw [hpub.out])
            | (go_at_call 12; (with_reducible refine (alive_any _).mono ?_); rintro e w4 ⟨rfl, n4, rfl⟩)
            | (go_at_call 13; (with_reducible refine (refPlace_any _ _ _ ?_ B1.out).mono ?_); exact HK.out; rintro e w4 ⟨rfl, hb4⟩; have HB4 := Lib.hid hb4; clear hb4)
        all_goals
          go_ret
          exact ⟨rfl, bel_alloc (bel_trans (bel_drewN (bel_refl w) _) HB4.out) _⟩
      · have hb1' : (65 : Int) ≤ (b : Int) := by omega
        have hb2' : (90 : Int) < (b : Int) := by omega
        have hpub := Lib.hid hp; clear hp
        go_wp2_with first
            | (go_at_call 7; (with_reducible refine (refName_any _ _ B2.out).mono ?_); rintro e w4 ⟨rfl, n4, rfl⟩; rw [hnm.out])
            | (go_at_call 10; (with_reducible refine (srcName_any _ _ B2.out).mono ?_); rintro e w4 ⟨rfl, n4, rfl⟩; rw [hnm.out])
            | (go_at_call 8; (with_reducible refine (letter_any _ _).mono ?_); rintro e w4 ⟨rfl, rfl⟩)
            | (go_at_call 9; (with_reducible refine (refLetter_any _ _).mono ?_); rintro e w4 ⟨rfl, rfl⟩)
            | (go_at_call 11; (with_reducible refine (public_any _ _ B2.out).mono ?_); rintro e w4 ⟨rfl, n4, rfl⟩; rw [hpub.out])
            | (go_at_call 12; (with_reducible refine (alive_any _).mono ?_); rintro e w4 ⟨rfl, n4, rfl⟩)
            | (go_at_call 13; (with_reducible refine (refPlace_any _ _ _ ?_ B1.out).mono ?_); exact HK.out; rintro e w4 ⟨rfl, hb4⟩; have HB4 := Lib.hid hb4; clear hb4)
        all_goals
          go_ret
          exact ⟨rfl, bel_alloc (bel_trans (bel_drewN (bel_refl w) _) HB4.out) _⟩
      · have hb1' : (65 : Int) ≤ (b : Int) := by omega
        have hb2' : (b : Int) ≤ 90 := by omega
        have hpub := Lib.hid hp; clear hp
        go_wp2_with first
            | (go_at_call 7; (with_reducible refine (refName_any _ _ B2.out).mono ?_); rintro e w4 ⟨rfl, n4, rfl⟩; rw [hnm.out])
            | (go_at_call 10; (with_reducible refine (srcName_any _ _ B2.out).mono ?_); rintro e w4 ⟨rfl, n4, rfl⟩; rw [hnm.out])
            | (go_at_call 8; (with_reducible refine (letter_any _ _).mono ?_); rintro e w4 ⟨rfl, rfl⟩)
            | (go_at_call 9; (with_reducible refine (refLetter_any _ _).mono ?_); rintro e w4 ⟨rfl, rfl⟩)
            | (go_at_call 11; (with_reducible refine (public_any _ _ B2.out).mono ?_); rintro e w4 ⟨rfl, n4, rfl⟩; rw [hpub.out])
            | (go_at_call 12; (with_reducible refine (alive_any _).mono ?_); rintro e w4 ⟨rfl, n4, rfl⟩)
            | (go_at_call 13; (with_reducible refine (refPlace_any _ _ _ ?_ B1.out).mono ?_); exact HK.out; rintro e w4 ⟨rfl, hb4⟩; have HB4 := Lib.hid hb4; clear hb4)
        all_goals
          go_ret
          exact ⟨rfl, bel_alloc (bel_trans (bel_drewN (bel_refl w) _) HB4.out) _⟩
end Go.Proofs.Ytfcjliiemiahkaa
