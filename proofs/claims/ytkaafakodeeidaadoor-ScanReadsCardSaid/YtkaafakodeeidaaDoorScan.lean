/-
  Layer 5's Scan; walked.
-/
import Derived.Test.YtkaafakodeeidaaDoorEnds
import Derived.Test.YtkaafakodeeidaaDoorPlan
import Derived.WalkMore
namespace Go.Proofs.YtkaafakodeeidaaDoor
open Go.RowKit

/-- Tokens, or the error and where. -/
def RetScan (r : List Tk × Nat × Nat) (w : World) (e : Ending) (w' : World) : Prop :=
  ∃ A cap, e = .returned (.tuple #[.slice A r.1.length cap, .int .i64 (r.2.1 : Int), .int .i64 (r.2.2 : Int)]) ∧ TksR w' A r.1 ∧ Below w.heap.size w w'
structure ScR (w1 wr : World) (s : ByteArray) (M : List Tk) (i : Nat) (v : Value) : Prop where
  old : Below w1.heap.size w1 wr
  own : wr.ownsRow w1.heap.size 39 3 v M.length (M.flatMap Tk.cells)
  left : scanFrom s M i = scanFrom s [] 0
  len : M.length ≤ i
set_option maxRecDepth 100000 in
set_option maxHeartbeats 4000000 in
theorem scan_good (s : ByteArray) (w : World) (hs : s.size ≤ 4000) (hl : Laid w) (h : sp s 0 = -1) : Calls Tryd.prog 4 #[.string s] w (RetScan (scanFrom s [] 0) w) := by
  have hc := check_any s w (by omega)
  have h1 : checkAt s = 0 := by unfold checkAt; rw [if_neg (by omega), if_pos h]
  have h2 : checkNo s = 0 := by unfold checkNo; rw [if_neg (by omega), if_pos h]
  rw [h1, h2] at hc
  have HC := Lib.hid hc
  have HL0 := Lib.hid hl; clear hl h1 h2 hc h
  go_enter Tryd.func4, Tryd.ntmps4
  go_wp2
  go_step3
  go_wp2_with (go_at_call 12; (with_reducible refine HC.out.mono ?_); rintro e w1 ⟨rfl, hb1⟩)
  have HW0 := Lib.hid hb1
  have HL := Lib.hid (HL0.out.below hb1); clear hb1
  go_step3
  go_wp2
  go_loopw [7, 8, 9, 10, 11, 12] (fun v iv _ _ _ _ wr => ∃ (M : List Tk) (i : Nat), iv = .int .i64 (i : Int) ∧ i ≤ s.size ∧ ScR w1 wr s M i v) (fun _ iv _ _ _ _ _ => s.size - (intOf iv).toNat)
  case atStart => exact ⟨[], 0, rfl, Nat.zero_le _, ⟨bel_refl _, own_nil _ _ _ _, rfl, Nat.le_refl _⟩⟩
  case round =>
    obtain ⟨M, i, rfl, hi, hrel⟩ := hrel
    have HR := Lib.hid hrel; clear hrel
    by_cases hlt : i < s.size
    · have hlt' : (i : Int) < (s.size : Int) := by omega
      have hle' : (i : Int) ≤ (s.size : Int) := by omega
      have KS := skipped_any (s.extract i s.size) wr (by rw [ext_size]; omega) (by rw [ext_size]; omega) (HL.out.below HR.out.old)
      have hsk := skip_le (s.extract i s.size) (by rw [ext_size]; omega)
      rw [ext_size] at hsk
      obtain ⟨N, hN⟩ : ∃ N, skipN (s.extract i s.size) = N := ⟨_, rfl⟩
      obtain ⟨L, hL⟩ : ∃ L, skipL (s.extract i s.size) = L := ⟨_, rfl⟩
      rw [hN, hL] at KS
      rw [hN] at hsk
      replace KS := Lib.hid KS
      have HNL : Hid (skipN (tl s i) = N ∧ skipL (tl s i) = L) := Lib.hid ⟨hN, hL⟩
      clear hN hL
      by_cases hneg : N < 0
      · have HNG := Lib.hid hneg
        go_wp2_with fail
        refine KS.out.mono ?_
        rintro e wa ⟨rfl, hba⟩
        have HBA := Lib.hid hba; clear hba
        go_wp2
        go_ret3
        refine ⟨none, 0, ?_, ?_, bel_trans HW0.out (bel_trans HR.out.old HBA.out)⟩
        · rw [← HR.out.left, scan_step hlt, HNL.out.1, if_pos HNG.out]
          rfl
        · rw [← HR.out.left, scan_step hlt, HNL.out.1, if_pos HNG.out]
          exact TksR.nil
      · by_cases hpos : 0 < N
        · obtain ⟨n, rfl⟩ : ∃ n : Nat, N = n := ⟨N.toNat, by omega⟩
          have s1 : IntKind.i64.wrap ((i : Int) + (n : Int)) = ((i + n : Nat) : Int) := by rw [IntKind.wrap_i64]; omega
          have hin : i + n ≤ s.size := by omega
          obtain ⟨i2, hi2⟩ : ∃ i2, i + n = i2 := ⟨_, rfl⟩
          rw [hi2] at s1 hin
          have HI2 := Lib.hid (show i2 = i + n from hi2.symm); clear hi2
          have hgo : scanFrom s M i = scanFrom s (if L = true then withNl M i else M) i2 := by
            rw [scan_step hlt, HNL.out.1, HNL.out.2, if_neg hneg, if_pos hpos, HI2.out]; rfl
          have HGO := Lib.hid hgo; clear hgo
          have HPS := Lib.hid (show 0 < n by omega)
          clear hsk
          cases L
          · go_wp2_with fail
            refine KS.out.mono ?_
            rintro e wa ⟨rfl, hba⟩
            have HBA := Lib.hid hba; clear hba
            go_wp2
            go_roundw
            case rel => exact ⟨M, i2, rfl, hin, ⟨bel_trans HR.out.old HBA.out, own_below HR.out.own HBA.out, HGO.out.symm.trans HR.out.left, by have := HR.out.len; have := HI2.out; omega⟩⟩
            case measure => have := HI2.out; have := HPS.out; simp [intOf]; omega
          · obtain ⟨A, cap, rfl, hcp, hrd⟩ := own_tks HR.out.own rfl
            have hml := HR.out.len
            have KE0 := fun wz (h : TksR wz A M) => ends_any M A cap wz (by omega) h
            have HRD := Lib.hid hrd
            obtain ⟨E, hE⟩ : ∃ E, endsB M = E := ⟨_, rfl⟩
            rw [hE] at KE0
            have KE1 := Lib.hid KE0; clear KE0 hrd
            have HE := Lib.hid hE; clear hE
            go_wp2_with fail
            refine KS.out.mono ?_
            rintro e wa ⟨rfl, hba⟩
            have HBA := Lib.hid hba; clear hba
            have KE := Lib.hid (KE1.out _ (HRD.out.below HBA.out))
            cases E
            · go_wp2_with fail
              refine KE.out.mono ?_
              rintro e wb ⟨rfl, hbb⟩
              have HBB := Lib.hid hbb; clear hbb
              go_wp2
              go_roundw
              case rel => exact ⟨M, i2, rfl, hin, ⟨bel_trans (bel_trans HR.out.old HBA.out) HBB.out, own_below (own_below HR.out.own HBA.out) HBB.out, by rw [← HR.out.left, HGO.out]; simp [withNl, HE.out], by have := HR.out.len; have := HI2.out; omega⟩⟩
              case measure => have := HI2.out; have := HPS.out; simp [intOf]; omega
            · go_wp2_with fail
              refine KE.out.mono ?_
              rintro e wb ⟨rfl, hbb⟩
              have HBB := Lib.hid hbb; clear hbb
              go_wp2_with (at_builtin; refine wpList_app _ rfl _ _ 22 rfl w1.heap.size 39 (.agg #[.int .i64 0, .string ByteArray.empty, .int .i64 0]) 3 32 (by kernel_rfl) info_tok rfl (by decide) _ M.length (M.flatMap Tk.cells) rfl _ 1 1 [.int .i64 6, .string ⟨#[10]⟩, .int .i64 (i : Int)] rfl rfl (tk_one _ _ _) ?own ?rd ?c1 ?c2 ?c3 ?_)
              case own => exact own_below (own_below (own_below HR.out.own HBA.out) HBB.out) (bel_alloc (bel_refl _) _)
              case rd => exact Rd.newAt wb _ _ _ _ (by simp) (by simp)
              case c1 => unfold maxLen; omega
              case c2 => omega
              case c3 => have := (bel_trans (bel_trans HR.out.old HBA.out) HBB.out).size; simp; omega
              intro v9 w9 hown hgr hbel
              have R9 : Hid (ScR w1 w9 s (M ++ [⟨6, nlT, i⟩]) i2 v9) := Lib.hid ⟨(bel_alloc (bel_trans (bel_trans HR.out.old HBA.out) HBB.out) _).trans hbel, by rw [List.flatMap_append, List.length_append]; exact hown, by rw [← HR.out.left, HGO.out]; simp [withNl, HE.out], by have := HR.out.len; have := HI2.out; have := HPS.out; rw [List.length_append]; show M.length + 1 ≤ i2; omega⟩
              clear hown hgr hbel
              go_wp2
              go_roundw
              case rel => exact ⟨_, i2, rfl, hin, R9.out⟩
              case measure => have := HI2.out; have := HPS.out; simp [intOf]; omega
        · obtain rfl : N = 0 := by omega
          have KT := Lib.hid (fun wz (h : Laid wz) => token_any (s.extract i s.size) wz (by rw [ext_size]; omega) (by rw [ext_size]; omega) h)
          have HT := Lib.hid (fun h => tok_le (s.extract i s.size) (by rw [ext_size]; omega) h)
          have hgo : scanFrom s M i = if (tokOf (tl s i)).2.2 ≠ 0 then ([], i, (tokOf (tl s i)).2.2) else scanFrom s (M ++ [⟨(tokOf (tl s i)).1, s.extract i (i + (tokOf (tl s i)).2.1), i⟩]) (i + (tokOf (tl s i)).2.1) := by
            rw [scan_step hlt, HNL.out.1, if_neg hneg, if_neg hpos]
          obtain ⟨r, hr⟩ : ∃ r, tokOf (s.extract i s.size) = r := ⟨_, rfl⟩
          rw [show tokOf (tl s i) = r from hr] at hgo
          rw [hr] at KT HT
          clear hr hsk
          obtain ⟨k, n, er⟩ := r
          have HGO := Lib.hid hgo; clear hgo
          by_cases her : er = 0
          · subst her
            obtain ⟨t1, t2, t3, t4⟩ := HT.out rfl
            rw [ext_size] at t2
            have hin : i + n ≤ s.size := by have : n ≤ s.size - i := t2; omega
            have s1 : IntKind.i64.wrap ((i : Int) + (n : Int)) = ((i + n : Nat) : Int) := by rw [IntKind.wrap_i64]; omega
            have HPS : Hid (0 < n) := Lib.hid t1
            obtain ⟨i2, hi2⟩ : ∃ i2, i + n = i2 := ⟨_, rfl⟩
            rw [hi2] at s1 hin
            have HI2 := Lib.hid (show i2 = i + n from hi2.symm); clear hi2 t1 t2 t3 t4
            have hin1 : (i2 : Int) ≤ (s.size : Int) := by omega
            have hin2 : (i : Int) ≤ (i2 : Int) := by have := HI2.out; omega
            have hml := HR.out.len
            go_wp2_with fail
            refine KS.out.mono ?_
            rintro e wa ⟨rfl, hba⟩
            have HBA := Lib.hid hba; clear hba
            go_wp2_with fail
            refine (KT.out _ (HL.out.below (bel_trans HR.out.old HBA.out))).mono ?_
            rintro e wb ⟨rfl, hbb⟩
            have HBB := Lib.hid hbb; clear hbb
            go_wp2_with (at_builtin; refine wpList_app _ rfl _ _ 22 rfl w1.heap.size 39 (.agg #[.int .i64 0, .string ByteArray.empty, .int .i64 0]) 3 32 (by kernel_rfl) info_tok rfl (by decide) _ M.length (M.flatMap Tk.cells) rfl _ 1 1 [.int .i64 (k : Int), .string (s.extract i i2), .int .i64 (i : Int)] rfl rfl (tk_one _ _ _) ?own ?rd ?c1 ?c2 ?c3 ?_)
            case own => exact own_below (own_below (own_below HR.out.own HBA.out) HBB.out) (bel_alloc (bel_refl _) _)
            case rd => exact Rd.newAt wb _ _ _ _ (by simp) (by simp)
            case c1 => unfold maxLen; omega
            case c2 => omega
            case c3 => have := (bel_trans (bel_trans HR.out.old HBA.out) HBB.out).size; simp; omega
            intro v9 w9 hown hgr hbel
            have R9 : Hid (ScR w1 w9 s (M ++ [⟨k, s.extract i i2, i⟩]) i2 v9) := Lib.hid ⟨(bel_alloc (bel_trans (bel_trans HR.out.old HBA.out) HBB.out) _).trans hbel, by rw [List.flatMap_append, List.length_append]; exact hown, by rw [← HR.out.left, HGO.out, HI2.out]; rfl, by have := HR.out.len; have := HI2.out; have := HPS.out; rw [List.length_append]; show M.length + 1 ≤ i2; omega⟩
            clear hown hgr hbel
            go_wp2
            go_roundw
            case rel => exact ⟨_, i2, rfl, hin, R9.out⟩
            case measure => have := HI2.out; have := HPS.out; simp [intOf]; omega
          · have q1 : ((er : Int) != 0) = true := by simp only [bne_iff_ne, ne_eq]; omega
            have q2 : ¬ (er : Int) = 0 := by omega
            have q3 : ((er : Int) == 0) = false := by simp only [beq_eq_false_iff_ne, ne_eq]; omega
            have HER := Lib.hid her; clear her
            go_wp2_with fail
            refine KS.out.mono ?_
            rintro e wa ⟨rfl, hba⟩
            have HBA := Lib.hid hba; clear hba
            go_wp2_with fail
            refine (KT.out _ (HL.out.below (bel_trans HR.out.old HBA.out))).mono ?_
            rintro e wb ⟨rfl, hbb⟩
            have HBB := Lib.hid hbb; clear hbb
            go_wp2
            go_ret3
            refine ⟨none, 0, ?_, ?_, bel_trans HW0.out (bel_trans (bel_trans HR.out.old HBA.out) HBB.out)⟩
            · rw [← HR.out.left, HGO.out, if_pos HER.out]
              rfl
            · rw [← HR.out.left, HGO.out, if_pos HER.out]
              exact TksR.nil
    · have hlt' : ¬ (i : Int) < (s.size : Int) := by omega
      obtain ⟨A, cap, rfl, hcp, hrd⟩ := own_tks HR.out.own rfl
      have hml := HR.out.len
      have KE0 := ends_any M A cap wr (by omega) hrd
      obtain ⟨E, hE⟩ : ∃ E, endsB M = E := ⟨_, rfl⟩
      rw [hE] at KE0
      have KE := Lib.hid KE0; clear KE0 hrd
      have HE := Lib.hid hE; clear hE
      cases E
      · have HW : Hid (withNl M i = M) := Lib.hid (by unfold withNl; rw [HE.out]; rfl)
        go_wp2_with fail
        refine KE.out.mono ?_
        rintro e wb ⟨rfl, hbb⟩
        have HBB := Lib.hid hbb; clear hbb
        go_wp2_with (at_builtin; refine wpList_app _ rfl _ _ 22 rfl w1.heap.size 39 (.agg #[.int .i64 0, .string ByteArray.empty, .int .i64 0]) 3 32 (by kernel_rfl) info_tok rfl (by decide) _ M.length (M.flatMap Tk.cells) rfl _ 1 1 [.int .i64 0, .string ByteArray.empty, .int .i64 (i : Int)] rfl rfl (tk_one _ _ _) ?own ?rd ?c1 ?c2 ?c3 ?_)
        case own => exact own_below (own_below HR.out.own HBB.out) (bel_alloc (bel_refl _) _)
        case rd => exact Rd.newAt wb _ _ _ _ (by simp) (by simp)
        case c1 => unfold maxLen; omega
        case c2 => omega
        case c3 => have := (bel_trans HR.out.old HBB.out).size; simp; omega
        intro v9 w9 hown hgr hbel
        have HB := Lib.hid ((bel_alloc ((bel_trans HR.out.old HBB.out)) _).trans hbel)
        have HO9 : Hid (w9.ownsRow w1.heap.size 39 3 v9 (M.length + 1) ((M ++ [(⟨0, ByteArray.empty, i⟩ : Tk)]).flatMap Tk.cells)) := Lib.hid (by rw [List.flatMap_append]; first | exact hown | (rw [hl8]; exact hown))
        clear hown hgr hbel
        obtain ⟨A9, c9, rfl, hc9, hr9⟩ := own_tks HO9.out (by rw [List.length_append]; rfl)
        have hl9 : (M ++ [(⟨0, ByteArray.empty, i⟩ : Tk)]).length = M.length + 1 := by rw [List.length_append]; rfl
        obtain ⟨n9, hn9⟩ : ∃ n9, (M ++ [(⟨0, ByteArray.empty, i⟩ : Tk)]).length = n9 := ⟨_, rfl⟩
        have HR9 := Lib.hid hr9
        rw [hn9] at hl9
        simp only [hn9]
        have HN9 := Lib.hid (And.intro hn9 hl9); clear hn9 hl9 hr9
        by_cases h15 : 1500 < n9
        · have h15' : (1500 : Int) < (n9 : Int) := by omega
          go_wp2
          go_ret3
          refine ⟨none, 0, ?_, ?_, bel_trans HW0.out HB.out⟩
          · rw [← HR.out.left, scan_out hlt]
            unfold lastly
            rw [HW.out, if_pos (by have := HN9.out.2; have := HN9.out.1; omega)]
            rfl
          · rw [← HR.out.left, scan_out hlt]
            unfold lastly
            rw [HW.out, if_pos (by have := HN9.out.2; have := HN9.out.1; omega)]
            exact TksR.nil
        · have h15' : ¬ (1500 : Int) < (n9 : Int) := by omega
          go_wp2
          go_ret3
          refine ⟨A9, c9, ?_, ?_, bel_trans HW0.out HB.out⟩
          · rw [← HR.out.left, scan_out hlt]
            unfold lastly
            rw [HW.out, if_neg (by have := HN9.out.2; have := HN9.out.1; omega), HN9.out.1]
            rfl
          · rw [← HR.out.left, scan_out hlt]
            unfold lastly
            rw [HW.out, if_neg (by have := HN9.out.2; have := HN9.out.1; omega)]
            exact HR9.out
      · have HW : Hid (withNl M i = M ++ [⟨6, nlT, i⟩]) := Lib.hid (by unfold withNl; rw [HE.out]; rfl)
        go_wp2_with fail
        refine KE.out.mono ?_
        rintro e wb ⟨rfl, hbb⟩
        have HBB := Lib.hid hbb; clear hbb
        go_wp2_with (at_builtin; refine wpList_app _ rfl _ _ 22 rfl w1.heap.size 39 (.agg #[.int .i64 0, .string ByteArray.empty, .int .i64 0]) 3 32 (by kernel_rfl) info_tok rfl (by decide) _ M.length (M.flatMap Tk.cells) rfl _ 1 1 [.int .i64 6, .string ⟨#[10]⟩, .int .i64 (i : Int)] rfl rfl (tk_one _ _ _) ?own ?rd ?c1 ?c2 ?c3 ?_)
        case own => exact own_below (own_below HR.out.own HBB.out) (bel_alloc (bel_refl _) _)
        case rd => exact Rd.newAt wb _ _ _ _ (by simp) (by simp)
        case c1 => unfold maxLen; omega
        case c2 => omega
        case c3 => have := (bel_trans HR.out.old HBB.out).size; simp; omega
        intro v8 w8 hown hgr hbel
        have hl8 : (M ++ [(⟨6, nlT, i⟩ : Tk)]).length = M.length + 1 := by rw [List.length_append]; rfl
        have HB8 := Lib.hid ((bel_alloc (bel_trans HR.out.old HBB.out) _).trans hbel)
        have HO8 : Hid (w8.ownsRow w1.heap.size 39 3 v8 (M ++ [(⟨6, nlT, i⟩ : Tk)]).length ((M ++ [(⟨6, nlT, i⟩ : Tk)]).flatMap Tk.cells)) := Lib.hid (by rw [List.flatMap_append, hl8]; exact hown)
        clear hown hgr hbel
        obtain ⟨M1, hM1⟩ : ∃ M1, M ++ [(⟨6, nlT, i⟩ : Tk)] = M1 := ⟨_, rfl⟩
        rw [hM1] at HW HO8 hl8
        clear hM1
        have hm1 : M1.length ≤ 4001 := by omega
        obtain ⟨A1, cap1, rfl, hcp1, hrd1⟩ := own_tks HO8.out rfl
        clear hrd1
        go_wp2_with (at_builtin; refine wpList_app _ rfl _ _ 22 rfl w1.heap.size 39 (.agg #[.int .i64 0, .string ByteArray.empty, .int .i64 0]) 3 32 (by kernel_rfl) info_tok rfl (by decide) _ M1.length (M1.flatMap Tk.cells) rfl _ 1 1 [.int .i64 0, .string ByteArray.empty, .int .i64 (i : Int)] rfl rfl (tk_one _ _ _) ?own ?rd ?c1 ?c2 ?c3 ?_)
        case own => exact own_below HO8.out (bel_alloc (bel_refl _) _)
        case rd => exact Rd.newAt w8 _ _ _ _ (by simp) (by simp)
        case c1 => unfold maxLen; omega
        case c2 => omega
        case c3 => have := HB8.out.size; simp; omega
        intro v9 w9 hown hgr hbel
        have HB := Lib.hid ((bel_alloc (HB8.out) _).trans hbel)
        have HO9 : Hid (w9.ownsRow w1.heap.size 39 3 v9 (M1.length + 1) ((M1 ++ [(⟨0, ByteArray.empty, i⟩ : Tk)]).flatMap Tk.cells)) := Lib.hid (by rw [List.flatMap_append]; first | exact hown | (rw [hl8]; exact hown))
        clear hown hgr hbel
        obtain ⟨A9, c9, rfl, hc9, hr9⟩ := own_tks HO9.out (by rw [List.length_append]; rfl)
        have hl9 : (M1 ++ [(⟨0, ByteArray.empty, i⟩ : Tk)]).length = M1.length + 1 := by rw [List.length_append]; rfl
        obtain ⟨n9, hn9⟩ : ∃ n9, (M1 ++ [(⟨0, ByteArray.empty, i⟩ : Tk)]).length = n9 := ⟨_, rfl⟩
        have HR9 := Lib.hid hr9
        rw [hn9] at hl9
        simp only [hn9]
        have HN9 := Lib.hid (And.intro hn9 hl9); clear hn9 hl9 hr9
        by_cases h15 : 1500 < n9
        · have h15' : (1500 : Int) < (n9 : Int) := by omega
          go_wp2
          go_ret3
          refine ⟨none, 0, ?_, ?_, bel_trans HW0.out HB.out⟩
          · rw [← HR.out.left, scan_out hlt]
            unfold lastly
            rw [HW.out, if_pos (by have := HN9.out.2; have := HN9.out.1; omega)]
            rfl
          · rw [← HR.out.left, scan_out hlt]
            unfold lastly
            rw [HW.out, if_pos (by have := HN9.out.2; have := HN9.out.1; omega)]
            exact TksR.nil
        · have h15' : ¬ (1500 : Int) < (n9 : Int) := by omega
          go_wp2
          go_ret3
          refine ⟨A9, c9, ?_, ?_, bel_trans HW0.out HB.out⟩
          · rw [← HR.out.left, scan_out hlt]
            unfold lastly
            rw [HW.out, if_neg (by have := HN9.out.2; have := HN9.out.1; omega), HN9.out.1]
            rfl
          · rw [← HR.out.left, scan_out hlt]
            unfold lastly
            rw [HW.out, if_neg (by have := HN9.out.2; have := HN9.out.1; omega)]
            exact HR9.out
set_option maxRecDepth 100000 in
set_option maxHeartbeats 1000000 in
theorem scan_bad (s : ByteArray) (a er : Nat) (w : World) (hc : Calls Tryd.prog 12 #[.string s] w (RetIE (a : Int) (er : Int) w)) (he : er ≠ 0) : Calls Tryd.prog 4 #[.string s] w (RetScan ([], a, er) w) := by
  have HC := Lib.hid hc; clear hc
  have q1 : ((er : Int) != 0) = true := by simp only [bne_iff_ne, ne_eq]; omega
  have q2 : ¬ (er : Int) = 0 := by omega
  have q3 : ((er : Int) == 0) = false := by simp only [beq_eq_false_iff_ne, ne_eq]; omega
  clear he
  go_enter Tryd.func4, Tryd.ntmps4
  go_wp2
  go_step3
  go_wp2_with (go_at_call 12; (with_reducible refine HC.out.mono ?_); rintro e w1 ⟨rfl, hb1⟩)
  have HW0 := Lib.hid hb1; clear hb1
  try rw [Exit.noGoto_ret]
  go_ret3
  exact ⟨none, 0, rfl, TksR.nil, HW0.out⟩
theorem sp_nn (s : ByteArray) : ∀ d i, s.size - i = d → sp s i = -1 ∨ 0 ≤ sp s i := by
  intro d
  induction d using Nat.strongRecOn with
  | ind d ih =>
    intro i hd
    by_cases h : i < s.size
    · cases hb : badAt s i
      · rw [sp_good h hb]
        have hz : 0 < sizeAt s i := by
          have := (badAt_false hb).1
          omega
        exact ih (s.size - (i + sizeAt s i)) (by omega) _ rfl
      · rw [sp_bad h hb]; omega
    · rw [sp_end h]; exact .inl rfl
/-- Scan. -/
theorem scan_any (s : ByteArray) (w : World) (hs : s.size ≤ 100000) (hl : Laid w) : Calls Tryd.prog 4 #[.string s] w (RetScan (scanAll s) w) := by
  unfold scanAll
  by_cases h1 : 4000 < s.size
  · rw [if_pos h1]
    refine scan_bad s 0 7 w ?_ (by decide)
    have hc := check_any s w (by omega)
    unfold checkAt checkNo at hc
    rw [if_pos h1, if_pos h1] at hc
    exact hc
  · rw [if_neg h1]
    by_cases h2 : sp s 0 = -1
    · rw [if_pos h2]
      exact scan_good s w (by omega) hl h2
    · rw [if_neg h2]
      refine scan_bad s _ 12 w ?_ (by decide)
      have hc := check_any s w (by omega)
      unfold checkAt checkNo at hc
      rw [if_neg h1, if_neg h1, if_neg h2, if_neg h2] at hc
      have := sp_nn s _ 0 rfl
      rw [show ((sp s 0).toNat : Int) = sp s 0 by omega]
      exact hc
end Go.Proofs.YtkaafakodeeidaaDoor
