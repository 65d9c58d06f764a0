/-
  Layer 5's tokens: quoted ones, operators; walked.
-/
import Derived.Test.YtkaafakodeeidaaDoorTok
import Derived.Deep.Cut
namespace Go.Proofs.YtkaafakodeeidaaDoor
open Go.RowKit

set_option maxRecDepth 100000 in
set_option maxHeartbeats 2000000 in
theorem token_quo (t : ByteArray) (q : Nat) (w : World) (hs : t.size ≤ 100000) (h0 : 0 < t.size) (hb : bt t 0 = q) (hq : q = 39 ∨ q = 34 ∨ q = 96) : Calls Tryd.prog 15 #[.string t] w (RetKNE (tokOf t) w) := by
  have a0 : (0 : Int) < (t.size : Int) := by omega
  have g0 := bt_get t (i := 0) h0
  have hL : letter (q : Int) = false := by rcases hq with h | h | h <;> (subst h; decide)
  have hD : digB q = false := by rcases hq with h | h | h <;> (subst h; decide)
  have KL : Calls Tryd.prog 27 #[.int .u8 (q : Int)] w (RetB false w) := letter_is q w hL
  have KD : Calls Tryd.prog 30 #[.int .u8 (q : Int)] w (RetB false w) := digit_is q w hD
  have he : tokOf t = if quoEnd t q 1 = 0 then (0, 0, 5) else if q = 39 then (4, quoEnd t q 1, 0) else (5, quoEnd t q 1, 0) := by
    unfold tokOf
    rw [hb, if_neg (by rw [hL]; decide), if_neg (by rintro (h | h); · rw [hD] at h; cases h
                                                    · omega), if_pos hq]
  rw [hb] at g0
  rw [he]
  have KQ := quoted_any t q w hs h0 hb
  obtain ⟨n, hn⟩ : ∃ n, quoEnd t q 1 = n := ⟨_, rfl⟩
  rw [hn] at KQ ⊢
  replace KL := Lib.hid KL
  replace KD := Lib.hid KD
  replace KQ := Lib.hid KQ
  clear he hL hD hb hn hs
  have f46 : ((q : Int) == 46) = false := by simp only [beq_eq_false_iff_ne, ne_eq]; omega
  have g46 : ¬ (q : Int) = 46 := by omega
  by_cases h39 : q = 39
  · subst h39
    by_cases hz : n = 0
    · subst hz
      go_enter Tryd.func15, Tryd.ntmps15
      go_wp2_with fail
      refine KL.out.mono ?_
      rintro e w1 ⟨rfl, rfl⟩
      go_wp2_with fail
      refine KD.out.mono ?_
      rintro e w1 ⟨rfl, rfl⟩
      go_wp2_with fail
      refine KQ.out.mono ?_
      rintro e w2 ⟨rfl, hbl⟩
      have HBL := Lib.hid hbl; clear hbl
      go_wp2
      go_ret3
      exact ⟨rfl, HBL.out⟩
    · have hz1 : ((n : Int) == 0) = false := by simp only [beq_eq_false_iff_ne, ne_eq]; omega
      have hz2 : ¬ (n : Int) = 0 := by omega
      have HZ := Lib.hid hz; clear hz
      go_enter Tryd.func15, Tryd.ntmps15
      go_wp2_with fail
      refine KL.out.mono ?_
      rintro e w1 ⟨rfl, rfl⟩
      go_wp2_with fail
      refine KD.out.mono ?_
      rintro e w1 ⟨rfl, rfl⟩
      go_wp2_with fail
      refine KQ.out.mono ?_
      rintro e w2 ⟨rfl, hbl⟩
      have HBL := Lib.hid hbl; clear hbl
      go_wp2
      go_ret3
      refine ⟨?_, HBL.out⟩
      first | rfl | (rw [if_neg HZ.out]; rfl)
  · have f39 : ((q : Int) == 39) = false := by simp only [beq_eq_false_iff_ne, ne_eq]; omega
    have g39 : ¬ (q : Int) = 39 := by omega
    have H39 := Lib.hid h39
    by_cases h34 : q = 34
    · subst h34
      clear h39
      by_cases hz : n = 0
      · subst hz
        go_enter Tryd.func15, Tryd.ntmps15
        go_wp2_with fail
        refine KL.out.mono ?_
        rintro e w1 ⟨rfl, rfl⟩
        go_wp2_with fail
        refine KD.out.mono ?_
        rintro e w1 ⟨rfl, rfl⟩
        go_wp2_with fail
        refine KQ.out.mono ?_
        rintro e w2 ⟨rfl, hbl⟩
        have HBL := Lib.hid hbl; clear hbl
        go_wp2
        go_ret3
        exact ⟨rfl, HBL.out⟩
      · have hz1 : ((n : Int) == 0) = false := by simp only [beq_eq_false_iff_ne, ne_eq]; omega
        have hz2 : ¬ (n : Int) = 0 := by omega
        have HZ := Lib.hid hz; clear hz
        go_enter Tryd.func15, Tryd.ntmps15
        go_wp2_with fail
        refine KL.out.mono ?_
        rintro e w1 ⟨rfl, rfl⟩
        go_wp2_with fail
        refine KD.out.mono ?_
        rintro e w1 ⟨rfl, rfl⟩
        go_wp2_with fail
        refine KQ.out.mono ?_
        rintro e w2 ⟨rfl, hbl⟩
        have HBL := Lib.hid hbl; clear hbl
        go_wp2
        go_ret3
        refine ⟨?_, HBL.out⟩
        first | rfl | (rw [if_neg HZ.out, if_neg H39.out]; rfl)
    · have h96 : q = 96 := by omega
      subst h96
      clear h39 h34 hq
      by_cases hz : n = 0
      · subst hz
        go_enter Tryd.func15, Tryd.ntmps15
        go_wp2_with fail
        refine KL.out.mono ?_
        rintro e w1 ⟨rfl, rfl⟩
        go_wp2_with fail
        refine KD.out.mono ?_
        rintro e w1 ⟨rfl, rfl⟩
        go_wp2_with fail
        refine KQ.out.mono ?_
        rintro e w2 ⟨rfl, hbl⟩
        have HBL := Lib.hid hbl; clear hbl
        go_wp2
        go_ret3
        exact ⟨rfl, HBL.out⟩
      · have hz1 : ((n : Int) == 0) = false := by simp only [beq_eq_false_iff_ne, ne_eq]; omega
        have hz2 : ¬ (n : Int) = 0 := by omega
        have HZ := Lib.hid hz; clear hz
        go_enter Tryd.func15, Tryd.ntmps15
        go_wp2_with fail
        refine KL.out.mono ?_
        rintro e w1 ⟨rfl, rfl⟩
        go_wp2_with fail
        refine KD.out.mono ?_
        rintro e w1 ⟨rfl, rfl⟩
        go_wp2_with fail
        refine KQ.out.mono ?_
        rintro e w2 ⟨rfl, hbl⟩
        have HBL := Lib.hid hbl; clear hbl
        go_wp2
        go_ret3
        refine ⟨?_, HBL.out⟩
        first | rfl | (rw [if_neg HZ.out, if_neg H39.out]; rfl)
theorem idx_ops (w : World) (V : Array Value) (i : Nat) (hi : i < 33) (k : ByteArray) (h : V[i]? = some (.string k)) : (Instr.index 52 (.agg V) (.int .i64 (i : Int))).run Tryd.prog w = .ok (.string k) w := by
  have h1 : (0 : Int) ≤ (i : Int) ∧ (i : Int) < ((33 : Nat) : Int) := by omega
  simp [Instr.index, asIntOf, run_underlying Tryd.underlying52, part, Tryd.isAgg9, Tryd.sizeOf9, h, hi]
theorem opsL_pos {j : Nat} (h : j < 33) : 0 < (opsL.getD j ByteArray.empty).size := by
  have : ∀ j : Fin 33, 0 < (opsL.getD j.val ByteArray.empty).size := by decide
  exact this ⟨j, h⟩
set_option maxRecDepth 100000 in
set_option maxHeartbeats 2000000 in
theorem token_op (t : ByteArray) (w : World) (h0 : 0 < t.size) (hl : Laid w) (hp : Plain t) : Calls Tryd.prog 15 #[.string t] w (RetKNE (tokOf t) w) := by
  rw [hp.tok]
  have a0 : (0 : Int) < (t.size : Int) := by omega
  have g0 := bt_get t (i := 0) h0
  have hq1 := hp.q1; have hq2 := hp.q2; have hq3 := hp.q3
  obtain ⟨b, hb⟩ : ∃ b, bt t 0 = b := ⟨_, rfl⟩
  have KL : Calls Tryd.prog 27 #[.int .u8 (b : Int)] w (RetB false w) := letter_is b w (by rw [← hb]; exact hp.wd)
  have KD : Calls Tryd.prog 30 #[.int .u8 (b : Int)] w (RetB false w) := digit_is b w (by rw [← hb]; exact hp.dg)
  rw [hb] at g0 hq1 hq2 hq3
  replace KL := Lib.hid KL
  replace KD := Lib.hid KD
  have HLD := Lib.hid hl
  have HP := Lib.hid (And.intro hp hb); clear hp hb
  have f39 : ((b : Int) == 39) = false := by simp only [beq_eq_false_iff_ne, ne_eq]; omega
  have f34 : ((b : Int) == 34) = false := by simp only [beq_eq_false_iff_ne, ne_eq]; omega
  have f96 : ((b : Int) == 96) = false := by simp only [beq_eq_false_iff_ne, ne_eq]; omega
  have g39 : ¬ (b : Int) = 39 := by omega
  have g34 : ¬ (b : Int) = 34 := by omega
  have g96 : ¬ (b : Int) = 96 := by omega
  clear hq1 hq2 hq3
  obtain ⟨R, hR⟩ : ∃ R, (if opLen t = 0 then ((0, 0, 12) : Nat × Nat × Nat) else (6, opLen t, 0)) = R := ⟨_, rfl⟩
  rw [hR]
  have HR := Lib.hid hR; clear hR
  have HG := Lib.hid (ops_range w hl); clear hl
  by_cases h46 : b = 46
  · subst h46
    have hd := HP.out.1.dt HP.out.2
    by_cases h1 : 1 < t.size
    · have a1 : (1 : Int) < (t.size : Int) := by omega
      have g1 := bt_get t (i := 1) h1
      obtain ⟨c, hc⟩ : ∃ c, bt t 1 = c := ⟨_, rfl⟩
      rw [hc] at g1 hd
      have KD2 := Lib.hid (digit_is c w hd)
      clear hc hd
      go_enter Tryd.func15, Tryd.ntmps15
      go_wp2_with fail
      refine KL.out.mono ?_
      rintro e w1 ⟨rfl, rfl⟩
      go_wp2_with fail
      refine KD.out.mono ?_
      rintro e w1 ⟨rfl, rfl⟩
      go_wp2_with fail
      refine KD2.out.mono ?_
      rintro e w1 ⟨rfl, rfl⟩
      go_upto_region 19 with fail
      refine wp_region_lit ?_
      refine wpList_load_mid rfl _ _ rfl 1 0 rfl opsV _ HG.out Tryd.underlying52 rfl (by kernel_rfl) ?_
      obtain ⟨V, hV⟩ : ∃ V, opsV.toArray = V := ⟨_, rfl⟩
      rw [hV]
      have hget : ∀ j, j < 33 → V[j]? = some (.string (opsL.getD j ByteArray.empty)) := fun j hj => by rw [← hV]; exact opsV_get hj
      have HV := Lib.hid hget; clear hV hget
      go_wp2_with fail
      go_loopw [11, 73] (fun _ iv wr => ∃ i : Nat, iv = .int .i64 (i : Int) ∧ i ≤ 33 ∧ wr = w1 ∧ opFrom t (opsL.drop i) = opLen t) (fun _ iv _ => 33 - (intOf iv).toNat)
      case atStart => exact ⟨0, rfl, Nat.zero_le _, rfl, rfl⟩
      case round =>
        obtain ⟨i, rfl, hi, rfl, ho⟩ := hrel
        have HO := Lib.hid ho; clear ho
        by_cases hlt : i < 33
        · have hlt' : (i : Int) < 33 := by omega
          have hcl := HV.out i hlt
          have hpos := opsL_pos hlt
          have hy := fun h => opFrom_yes (t := t) hlt h
          have hn := fun h => opFrom_no (t := t) hlt h
          have hix := idx_ops wr V i hlt _ hcl
          have KP := Tryd.strings_HasPrefix t (opsL.getD i ByteArray.empty) wr
          obtain ⟨k, hk⟩ : ∃ k, opsL.getD i ByteArray.empty = k := ⟨_, rfl⟩
          rw [hk] at hix hpos hy hn KP
          clear hcl
          obtain ⟨x, hx⟩ : ∃ x, Go.Lib.hasPrefix t.data.toList k.data.toList = x := ⟨_, rfl⟩
          rw [hx] at hy hn KP
          replace KP := Lib.hid KP
          replace hy := Lib.hid hy
          replace hn := Lib.hid hn
          clear hk hx
          cases x
          · go_wp2_with fail
            refine KP.out.mono ?_
            rintro e w1 ⟨rfl, rfl⟩
            go_wp2
            go_roundw
            case rel => exact ⟨i + 1, by go_num, by omega, by first | rfl | trivial, by rw [← HO.out]; exact (hn.out (by first | rfl | trivial)).symm⟩
            case measure => simp [intOf]; omega
          · go_wp2_with fail
            refine KP.out.mono ?_
            rintro e w1 ⟨rfl, rfl⟩
            go_wp2
            go_ret3
            have ho : opLen t = k.size := by rw [← HO.out]; exact hy.out (by first | rfl | trivial)
            refine ⟨?_, bel_refl _⟩
            rw [← HR.out, ho, if_neg (by omega)]
            rfl
        · have hie : i = 33 := by omega
          subst hie
          go_wp2
          go_ret3
          have ho : opLen t = 0 := HO.out.symm
          refine ⟨?_, bel_refl _⟩
          rw [← HR.out, ho]
          rfl
    · have a1 : ¬ (1 : Int) < (t.size : Int) := by omega
      clear h1 hd
      go_enter Tryd.func15, Tryd.ntmps15
      go_wp2_with fail
      refine KL.out.mono ?_
      rintro e w1 ⟨rfl, rfl⟩
      go_wp2_with fail
      refine KD.out.mono ?_
      rintro e w1 ⟨rfl, rfl⟩
      go_upto_region 19 with fail
      refine wp_region_lit ?_
      refine wpList_load_mid rfl _ _ rfl 1 0 rfl opsV _ HG.out Tryd.underlying52 rfl (by kernel_rfl) ?_
      obtain ⟨V, hV⟩ : ∃ V, opsV.toArray = V := ⟨_, rfl⟩
      rw [hV]
      have hget : ∀ j, j < 33 → V[j]? = some (.string (opsL.getD j ByteArray.empty)) := fun j hj => by rw [← hV]; exact opsV_get hj
      have HV := Lib.hid hget; clear hV hget
      go_wp2_with fail
      go_loopw [11, 73] (fun _ iv wr => ∃ i : Nat, iv = .int .i64 (i : Int) ∧ i ≤ 33 ∧ wr = w1 ∧ opFrom t (opsL.drop i) = opLen t) (fun _ iv _ => 33 - (intOf iv).toNat)
      case atStart => exact ⟨0, rfl, Nat.zero_le _, rfl, rfl⟩
      case round =>
        obtain ⟨i, rfl, hi, rfl, ho⟩ := hrel
        have HO := Lib.hid ho; clear ho
        by_cases hlt : i < 33
        · have hlt' : (i : Int) < 33 := by omega
          have hcl := HV.out i hlt
          have hpos := opsL_pos hlt
          have hy := fun h => opFrom_yes (t := t) hlt h
          have hn := fun h => opFrom_no (t := t) hlt h
          have hix := idx_ops wr V i hlt _ hcl
          have KP := Tryd.strings_HasPrefix t (opsL.getD i ByteArray.empty) wr
          obtain ⟨k, hk⟩ : ∃ k, opsL.getD i ByteArray.empty = k := ⟨_, rfl⟩
          rw [hk] at hix hpos hy hn KP
          clear hcl
          obtain ⟨x, hx⟩ : ∃ x, Go.Lib.hasPrefix t.data.toList k.data.toList = x := ⟨_, rfl⟩
          rw [hx] at hy hn KP
          replace KP := Lib.hid KP
          replace hy := Lib.hid hy
          replace hn := Lib.hid hn
          clear hk hx
          cases x
          · go_wp2_with fail
            refine KP.out.mono ?_
            rintro e w1 ⟨rfl, rfl⟩
            go_wp2
            go_roundw
            case rel => exact ⟨i + 1, by go_num, by omega, by first | rfl | trivial, by rw [← HO.out]; exact (hn.out (by first | rfl | trivial)).symm⟩
            case measure => simp [intOf]; omega
          · go_wp2_with fail
            refine KP.out.mono ?_
            rintro e w1 ⟨rfl, rfl⟩
            go_wp2
            go_ret3
            have ho : opLen t = k.size := by rw [← HO.out]; exact hy.out (by first | rfl | trivial)
            refine ⟨?_, bel_refl _⟩
            rw [← HR.out, ho, if_neg (by omega)]
            rfl
        · have hie : i = 33 := by omega
          subst hie
          go_wp2
          go_ret3
          have ho : opLen t = 0 := HO.out.symm
          refine ⟨?_, bel_refl _⟩
          rw [← HR.out, ho]
          rfl
  · have f46 : ((b : Int) == 46) = false := by simp only [beq_eq_false_iff_ne, ne_eq]; omega
    have g46 : ¬ (b : Int) = 46 := by omega
    clear h46
    go_enter Tryd.func15, Tryd.ntmps15
    go_wp2_with fail
    refine KL.out.mono ?_
    rintro e w1 ⟨rfl, rfl⟩
    go_wp2_with fail
    refine KD.out.mono ?_
    rintro e w1 ⟨rfl, rfl⟩
    go_upto_region 19 with fail
    refine wp_region_lit ?_
    refine wpList_load_mid rfl _ _ rfl 1 0 rfl opsV _ HG.out Tryd.underlying52 rfl (by kernel_rfl) ?_
    obtain ⟨V, hV⟩ : ∃ V, opsV.toArray = V := ⟨_, rfl⟩
    rw [hV]
    have hget : ∀ j, j < 33 → V[j]? = some (.string (opsL.getD j ByteArray.empty)) := fun j hj => by rw [← hV]; exact opsV_get hj
    have HV := Lib.hid hget; clear hV hget
    go_wp2_with fail
    go_loopw [11, 73] (fun _ iv wr => ∃ i : Nat, iv = .int .i64 (i : Int) ∧ i ≤ 33 ∧ wr = w1 ∧ opFrom t (opsL.drop i) = opLen t) (fun _ iv _ => 33 - (intOf iv).toNat)
    case atStart => exact ⟨0, rfl, Nat.zero_le _, rfl, rfl⟩
    case round =>
      obtain ⟨i, rfl, hi, rfl, ho⟩ := hrel
      have HO := Lib.hid ho; clear ho
      by_cases hlt : i < 33
      · have hlt' : (i : Int) < 33 := by omega
        have hcl := HV.out i hlt
        have hpos := opsL_pos hlt
        have hy := fun h => opFrom_yes (t := t) hlt h
        have hn := fun h => opFrom_no (t := t) hlt h
        have hix := idx_ops wr V i hlt _ hcl
        have KP := Tryd.strings_HasPrefix t (opsL.getD i ByteArray.empty) wr
        obtain ⟨k, hk⟩ : ∃ k, opsL.getD i ByteArray.empty = k := ⟨_, rfl⟩
        rw [hk] at hix hpos hy hn KP
        clear hcl
        obtain ⟨x, hx⟩ : ∃ x, Go.Lib.hasPrefix t.data.toList k.data.toList = x := ⟨_, rfl⟩
        rw [hx] at hy hn KP
        replace KP := Lib.hid KP
        replace hy := Lib.hid hy
        replace hn := Lib.hid hn
        clear hk hx
        cases x
        · go_wp2_with fail
          refine KP.out.mono ?_
          rintro e w1 ⟨rfl, rfl⟩
          go_wp2
          go_roundw
          case rel => exact ⟨i + 1, by go_num, by omega, by first | rfl | trivial, by rw [← HO.out]; exact (hn.out (by first | rfl | trivial)).symm⟩
          case measure => simp [intOf]; omega
        · go_wp2_with fail
          refine KP.out.mono ?_
          rintro e w1 ⟨rfl, rfl⟩
          go_wp2
          go_ret3
          have ho : opLen t = k.size := by rw [← HO.out]; exact hy.out (by first | rfl | trivial)
          refine ⟨?_, bel_refl _⟩
          rw [← HR.out, ho, if_neg (by omega)]
          rfl
      · have hie : i = 33 := by omega
        subst hie
        go_wp2
        go_ret3
        have ho : opLen t = 0 := HO.out.symm
        refine ⟨?_, bel_refl _⟩
        rw [← HR.out, ho]
        rfl
theorem token_any (t : ByteArray) (w : World) (hs : t.size ≤ 100000) (h0 : 0 < t.size) (hl : Laid w) : Calls Tryd.prog 15 #[.string t] w (RetKNE (tokOf t) w) := by
  cases hc : letter (bt t 0 : Int)
  · cases hd : digB (bt t 0)
    · by_cases hdot : bt t 0 = 46 ∧ digB (bt t 1) = true
      · have h1 : 1 < t.size := by
          rcases Nat.lt_or_ge 1 t.size with h | h
          · exact h
          · have h2 := hdot.2
            rw [bt_none t (by omega)] at h2
            cases h2
        exact token_dot t w hs h0 hdot.1 h1 hdot.2
      · by_cases hq : bt t 0 = 39 ∨ bt t 0 = 34 ∨ bt t 0 = 96
        · exact token_quo t _ w hs h0 rfl hq
        · exact token_op t w h0 hl ⟨hc, hd, fun h => by
            cases h2 : digB (bt t 1)
            · rfl
            · exact absurd ⟨h, h2⟩ hdot, fun h => hq (.inl h), fun h => hq (.inr (.inl h)), fun h => hq (.inr (.inr h))⟩
    · exact token_num t w hs h0 hc hd
  · exact token_word t w hs h0 hl hc
end Go.Proofs.YtkaafakodeeidaaDoor
