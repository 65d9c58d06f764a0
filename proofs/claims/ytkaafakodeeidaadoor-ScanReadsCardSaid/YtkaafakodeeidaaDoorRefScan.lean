/-
  Layer 5's reference: Scan; walked.
-/
import Derived.Test.YtkaafakodeeidaaDoorRefT
import Derived.Test.YtkaafakodeeidaaDoorRefS
import Derived.Test.YtkaafakodeeidaaDoorScan
import Derived.Test.YtkaafakodeeidaaDoorOwn2
import Derived.Deep.RegionLaw
namespace Go.Proofs.YtkaafakodeeidaaDoor
open Go.RowKit

theorem skip_zero {t : ByteArray} (h : skipN t = 0) : skipL t = false := by
  cases hl : skipL t
  · rfl
  · exfalso
    unfold skipL at hl
    rw [Bool.or_eq_true, Bool.and_eq_true, Bool.and_eq_true, Bool.and_eq_true, decide_eq_true_iff, decide_eq_true_iff, decide_eq_true_iff, decide_eq_true_iff] at hl
    unfold skipN at h
    rcases hl with hl | ⟨⟨⟨h1, h2⟩, h3⟩, _⟩
    · rw [if_pos (by omega)] at h
      cases h
    · rw [if_neg (by omega), if_neg (by omega), if_pos ⟨h1, h2⟩, if_pos h3] at h
      omega
/-- Append at a step of a region that draws its order. -/
theorem step_app {P : Program} {ops : Array Oper} {o : Oper} {a : Act} {K : Act → World → Prop} {Q : Exit → Act → World → Prop} {E : Prop} (w : World) (hgd : o.guard = none) (s x : Operand) (t : TypeId)
    (ho : o.op = .call { callee := .builtin .append, args := #[s, x], argTypes := #[t, t] })
    (base : Nat) (e : TypeId) (z : Value) (size bytes : Nat) (ht : P.underlying t = some (.slice e))
    (hinfo : (P.info? e).map (fun i => (i.zero, i.size, i.bytes)) = some (some z, size, bytes)) (hzs : z.cells.size = size) (hsz : 0 < size)
    (v : Value) (n : Nat) (xs : List Value) (hs : a.eval s = v) (A : Option Addr) (m c : Nat) (news : List Value) (hx : a.eval x = .slice A m c)
    (hl : news.length = m * size) (h1 : ∀ u ∈ news, u.oneCell' = true)
    (hown : w.ownsRow base e size v n xs) (hrd : Rd w A (m * size) (fun k => news.getD k undef))
    (h63 : n + m ≤ maxLen) (hbytes : (n + m) * bytes ≤ 140737488355328) (hbase : base ≤ w.heap.size)
    (h : ∀ v' w', w'.ownsRow base e size v' (n + m) (xs ++ news) → w.grownBy w' v.ownBlock → Below base w w' → K (a.put o.dst v') w') :
    if Region.wanted o (yielded ops a.tmps) = true then Oper.wp P o a w K Q else E := by
  have hw : Region.wanted o (yielded ops a.tmps) = true := by simp [Region.wanted, hgd]
  rw [if_pos hw]
  obtain ⟨v', w', hrun, h2, h3, h4⟩ := run_app w base t o.type e z size bytes ht hinfo hzs hsz v n xs hown A m c news hl hrd h1 h63 hbytes hbase
  unfold Oper.wp execOp
  simp only [ho, resolve, invoke, builtin, Sem.run_bind, Sem.run_pure, Result.andThen_ok, List.map_toArray, List.map_cons, List.map_nil, hs, hx, hrun]
  exact h v' w' h2 h3 h4
/-- Tokens, or the error and where, as the reference hands them back. -/
def RetR (r : List Tk × Nat × Nat) (w : World) (e : Ending) (w' : World) : Prop :=
  ∃ A cap, e = .returned (.agg #[.slice A r.1.length cap, .int .i64 (r.2.1 : Int), .int .i64 (r.2.2 : Int)]) ∧ TksR w' A r.1 ∧ Below w.heap.size w w'
structure RScR (w w1 wr : World) (s : ByteArray) (M : List Tk) (i : Nat) (v : Value) : Prop where
  old : Below w.heap.size w wr
  size : w1.heap.size ≤ wr.heap.size
  res : Blk wr w.heap.size 27 #[.slice none 0 0, .int .i64 0, .int .i64 0]
  own : wr.ownsRow w1.heap.size 39 3 v M.length (M.flatMap Tk.cells)
  left : scanFrom s M i = scanFrom s [] 0
  len : M.length ≤ i
  kinds : ∀ t, t ∈ M → 1 ≤ t.kind ∧ t.kind ≤ 7
set_option maxRecDepth 100000 in
set_option maxHeartbeats 2000000 in
theorem refScan_long (s : ByteArray) (w : World) (h : 4000 < s.size) : Calls Tryd.prog 5 #[.string s] w (RetR ([], 0, 7) w) := by
  have h' : (4000 : Int) < (s.size : Int) := by omega
  have D := Lib.hid (And.intro (Blk.new w 27 #[.slice none 0 0, .int .i64 0, .int .i64 7]) (bel_alloc (bel_refl w) (.cells #[.slice none 0 0, .int .i64 0, .int .i64 7] 27)))
  go_enter Tryd.func5, Tryd.ntmps5
  go_wp2
  refine bodyPost_ret (v := .agg #[.slice none 0 0, .int .i64 0, .int .i64 7]) ?hr rfl ?hR
  case hR => exact ⟨none, 0, rfl, TksR.nil, D.out.2⟩
  case hr => exact results_cell_row rfl _ _ w.heap.size 27 _ (0, 0) _ rfl D.out.1 Tryd.underlying27 rfl (by kernel_rfl)
set_option maxRecDepth 100000 in
set_option maxHeartbeats 2000000 in
theorem refScan_bad (s : ByteArray) (w : World) (a : Nat) (h : s.size ≤ 4000) (ha : sp s 0 = (a : Int)) : Calls Tryd.prog 5 #[.string s] w (RetR ([], a, 12) w) := by
  have h' : ¬ (4000 : Int) < (s.size : Int) := by omega
  have KS := fun W => spoilt_any s W (by omega)
  rw [ha] at KS
  replace KS := Lib.hid KS
  clear ha h
  have ha0 : (0 : Int) ≤ (a : Int) := by omega
  obtain ⟨wa, hwa⟩ : ∃ wa, wa = w.alloc (.cells #[.slice none 0 0, .int .i64 0, .int .i64 0] 27) := ⟨_, rfl⟩
  have hbl : Below w.heap.size w wa := by rw [hwa]; exact bel_alloc (bel_refl _) _
  have RES : Blk wa w.heap.size 27 #[.slice none 0 0, .int .i64 0, .int .i64 0] := by
    have hz := Blk.new w 27 #[.slice none 0 0, .int .i64 0, .int .i64 0]
    rw [hwa]
    exact hz
  have HW := Lib.hid hbl; clear hbl
  replace RES := Lib.hid RES
  go_enter Tryd.func5, Tryd.ntmps5
  go_wp2_with fail
  rw [← hwa]
  clear hwa
  refine (KS.out _).mono ?_
  rintro e w1 ⟨rfl, n1, rfl⟩
  go_wp2_with fail
  refine (KS.out _).mono ?_
  rintro e w1 ⟨rfl, n2, rfl⟩
  replace RES : Hid (Blk ((wa.drewN n1).drewN n2) w.heap.size 27 #[.slice none 0 0, .int .i64 0, .int .i64 0]) := Lib.hid (RES.out.below (bel_drewN (bel_drewN (bel_refl wa) n1) n2) RES.out.lt)
  replace HW : Hid (Below w.heap.size w ((wa.drewN n1).drewN n2)) := Lib.hid (bel_drewN (bel_drewN HW.out n1) n2)
  obtain ⟨wz, hwz⟩ : ∃ wz, (wa.drewN n1).drewN n2 = wz := ⟨_, rfl⟩
  rw [hwz] at RES HW ⊢
  clear hwz
  have d0 : wz.cell? ⟨w.heap.size, 0, none⟩ = some (.slice none 0 0) := RES.out.cell 0
  have f0 : wz.frozen? ⟨w.heap.size, 0, none⟩ = false := RES.out.frozen 0
  have d1 : wz.cell? ⟨w.heap.size, 1, none⟩ = some (.int .i64 0) := RES.out.cell 1
  have f1 : wz.frozen? ⟨w.heap.size, 1, none⟩ = false := RES.out.frozen 1
  have d2 : wz.cell? ⟨w.heap.size, 2, none⟩ = some (.int .i64 0) := RES.out.cell 2
  have f2 : wz.frozen? ⟨w.heap.size, 2, none⟩ = false := RES.out.frozen 2
  have hlw : w.heap.size < wz.heap.size := RES.out.lt
  have D := Lib.hid (And.intro (RES.out.put3 (.slice none 0 0) (.int .i64 (a : Int)) (.int .i64 12)) (bel_set3 (g := w.heap.size) HW.out (Nat.le_refl _) (.slice none 0 0) (.int .i64 (a : Int)) (.int .i64 12)))
  go_wp2
  refine bodyPost_ret (v := .agg #[.slice none 0 0, .int .i64 (a : Int), .int .i64 12]) ?hr1 rfl ?hhr1
  case hhr1 => exact ⟨none, 0, rfl, TksR.nil, D.out.2⟩
  case hr1 => exact results_cell_row rfl _ _ w.heap.size 27 _ (0, 0) _ rfl D.out.1 Tryd.underlying27 rfl (by kernel_rfl)
set_option maxRecDepth 100000 in
set_option maxHeartbeats 4000000 in
theorem refScan_good (s : ByteArray) (w : World) (hs : s.size ≤ 4000) (h : sp s 0 = -1) : Calls Tryd.prog 5 #[.string s] w (RetR (scanFrom s [] 0) w) := by
  have h' : ¬ (4000 : Int) < (s.size : Int) := by omega
  have KS0 := fun W => spoilt_any s W (by omega)
  rw [h] at KS0
  replace KS0 := Lib.hid KS0
  clear h
  obtain ⟨wa, hwa⟩ : ∃ wa, wa = w.alloc (.cells #[.slice none 0 0, .int .i64 0, .int .i64 0] 27) := ⟨_, rfl⟩
  have hbl : Below w.heap.size w wa := by rw [hwa]; exact bel_alloc (bel_refl _) _
  have RES : Blk wa w.heap.size 27 #[.slice none 0 0, .int .i64 0, .int .i64 0] := by
    have hz := Blk.new w 27 #[.slice none 0 0, .int .i64 0, .int .i64 0]
    rw [hwa]
    exact hz
  have HW := Lib.hid hbl; clear hbl
  replace RES := Lib.hid RES
  go_enter Tryd.func5, Tryd.ntmps5
  go_wp2_with fail
  rw [← hwa]
  clear hwa
  refine (KS0.out _).mono ?_
  rintro e w1 ⟨rfl, n1, rfl⟩
  replace RES : Hid (Blk (wa.drewN n1) w.heap.size 27 #[.slice none 0 0, .int .i64 0, .int .i64 0]) := Lib.hid (RES.out.below (bel_drewN (bel_refl wa) n1) RES.out.lt)
  replace HW : Hid (Below w.heap.size w (wa.drewN n1)) := Lib.hid (bel_drewN HW.out n1)
  obtain ⟨w1, hw1⟩ : ∃ w1, wa.drewN n1 = w1 := ⟨_, rfl⟩
  rw [hw1] at RES HW ⊢
  clear hw1
  have HLT : Hid (w.heap.size < w1.heap.size) := Lib.hid RES.out.lt
  have HST : Hid (RScR w w1 (w1.alloc (.cells #[] 39)) s [] 0 (.slice (some ⟨w1.heap.size, 0, none⟩) 0 0)) := Lib.hid ⟨bel_alloc HW.out _, by simp, RES.out.alloc _, own_empty w1 _ _ _ (Nat.le_refl _), rfl, Nat.le_refl _, fun t ht => by cases ht⟩
  go_wp2_with fail
  go_loopw [3, 4, 5, 6] (fun v iv _ _ wr => ∃ (M : List Tk) (i : Nat) (v0 : Value), v0 = v ∧ iv = .int .i64 (i : Int) ∧ i ≤ s.size ∧ RScR w w1 wr s M i v0) (fun _ iv _ _ _ => s.size - (intOf iv).toNat)
  case atStart => exact ⟨[], 0, _, rfl, rfl, Nat.zero_le _, HST.out⟩
  case round =>
    obtain ⟨M, i, v0, rfl, rfl, hi, hrel⟩ := hrel
    have HR := Lib.hid hrel; clear hrel
    clear RES HW HST
    have RES := Lib.hid HR.out.res
    have HW := Lib.hid HR.out.old
    by_cases hlt : i < s.size
    · have hlt' : (i : Int) < (s.size : Int) := by omega
      have KS := refSkip_any s i wr (by omega) hlt
      have hsk := skip_le (tl s i) (tl_size s hlt)
      rw [tl_is] at hsk
      obtain ⟨N, hN⟩ : ∃ N, skipN (tl s i) = N := ⟨_, rfl⟩
      obtain ⟨L, hL⟩ : ∃ L, skipL (tl s i) = L := ⟨_, rfl⟩
      unfold skipAt at KS
      rw [hN, hL] at KS
      rw [hN] at hsk
      have HNL := Lib.hid (And.intro hN hL)
      have hz := fun h => skip_zero (t := tl s i) h
      rw [hN, hL] at hz
      clear hN hL
      by_cases hneg : N < 0
      · rw [if_pos hneg] at KS
        replace KS := Lib.hid KS
        have HNG := Lib.hid hneg
        clear hz hneg hsk
        go_wp2_with fail
        refine KS.out.mono ?_
        rintro e wa ⟨rfl, hba⟩
        obtain ⟨wk, hwk⟩ : ∃ wk, wk = wa.alloc (.cells #[.int .i64 0, .bool false, .int .i64 5] 44) := ⟨_, rfl⟩
        have hbl : Below wr.heap.size wr wk := by rw [hwk]; exact bel_alloc hba _
        replace RES := Lib.hid (RES.out.below hbl RES.out.lt)
        replace HW := Lib.hid (bel_trans HW.out hbl); clear hbl
        have KB : Blk wk wa.heap.size 44 #[.int .i64 0, .bool false, .int .i64 5] := by
          have hz := Blk.new wa 44 #[.int .i64 0, .bool false, .int .i64 5]
          rw [hwk]
          exact hz
        have k2 : wk.cell? ⟨wa.heap.size, 2, none⟩ = some (.int .i64 5) := KB.cell 2
        have klt : wa.heap.size < wk.heap.size := KB.lt
        have HKB := Lib.hid KB; clear KB
        go_upto_region 9 with fail
        rw [← hwk]
        clear hwk
        have d0 : wk.cell? ⟨w.heap.size, 0, none⟩ = some (.slice none 0 0) := RES.out.cell 0
        have f0 : wk.frozen? ⟨w.heap.size, 0, none⟩ = false := RES.out.frozen 0
        have d1 : wk.cell? ⟨w.heap.size, 1, none⟩ = some (.int .i64 0) := RES.out.cell 1
        have f1 : wk.frozen? ⟨w.heap.size, 1, none⟩ = false := RES.out.frozen 1
        have d2 : wk.cell? ⟨w.heap.size, 2, none⟩ = some (.int .i64 0) := RES.out.cell 2
        have f2 : wk.frozen? ⟨w.heap.size, 2, none⟩ = false := RES.out.frozen 2
        have hlw : w.heap.size < wk.heap.size := RES.out.lt
        have D := Lib.hid (And.intro (RES.out.put3 (.slice none 0 0) (.int .i64 (i : Int)) (.int .i64 5)) (bel_set3 (g := w.heap.size) HW.out (Nat.le_refl _) (.slice none 0 0) (.int .i64 (i : Int)) (.int .i64 5)))
        go_wp2
        refine bodyPost_ret (v := .agg #[.slice none 0 0, .int .i64 (i : Int), .int .i64 5]) ?hr2 rfl ?hhr2
        case hhr2 => exact ⟨none, 0, by rw [← HR.out.left, scan_step hlt, HNL.out.1, if_pos HNG.out]; rfl, by rw [← HR.out.left, scan_step hlt, HNL.out.1, if_pos HNG.out]; exact TksR.nil, D.out.2⟩
        case hr2 => exact results_cell_row rfl _ _ w.heap.size 27 _ (0, 0) _ rfl D.out.1 Tryd.underlying27 rfl (by kernel_rfl)
      · rw [if_neg hneg] at KS
        obtain ⟨n, rfl⟩ : ∃ n : Nat, N = n := ⟨N.toNat, by omega⟩
        have hin : i + n ≤ s.size := by omega
        rw [show i + ((n : Int)).toNat = i + n from rfl] at KS
        obtain ⟨i2, hi2⟩ : ∃ i2, i + n = i2 := ⟨_, rfl⟩
        rw [hi2] at KS hin
        have HI2 := Lib.hid (show i2 = i + n from hi2.symm); clear hi2
        replace KS := Lib.hid KS
        have HNG := Lib.hid hneg
        clear hneg hsk
        have hgo : 0 < n → scanFrom s M i = scanFrom s (if L = true then withNl M i else M) i2 := fun hp => by
          rw [scan_step hlt, HNL.out.1, HNL.out.2, if_neg HNG.out, if_pos (by omega), HI2.out]; rfl
        have HGO := Lib.hid hgo; clear hgo
        have HZ := Lib.hid hz; clear hz
        obtain ⟨A, cap, hv, hcp, hrd⟩ := own_tks HR.out.own rfl
        have hml := HR.out.len
        have HRD := Lib.hid hrd; clear hrd
        obtain ⟨E, hE⟩ : ∃ E, endsB M = E := ⟨_, rfl⟩
        have KE : Hid (∀ W, TksR W A M → Calls Tryd.prog 18 #[v0] W (RetBw E W)) := Lib.hid (fun W h => by rw [← hE, hv]; exact refEnds_any M A cap W (by omega) h HR.out.kinds)
        have HE := Lib.hid hE; clear hE hv
        go_wp2_with fail
        refine KS.out.mono ?_
        rintro e wa ⟨rfl, hba⟩
        obtain ⟨wk, hwk⟩ : ∃ wk, wk = wa.alloc (.cells #[.int .i64 (i2 : Int), .bool L, .int .i64 0] 44) := ⟨_, rfl⟩
        have hbl : Below wr.heap.size wr wk := by rw [hwk]; exact bel_alloc hba _
        have hbk := Lib.hid hbl
        replace RES := Lib.hid (RES.out.below hbl RES.out.lt)
        replace HW := Lib.hid (bel_trans HW.out hbl); clear hbl
        have KB : Blk wk wa.heap.size 44 #[.int .i64 (i2 : Int), .bool L, .int .i64 0] := by
          have hz := Blk.new wa 44 #[.int .i64 (i2 : Int), .bool L, .int .i64 0]
          rw [hwk]
          exact hz
        have k0 : wk.cell? ⟨wa.heap.size, 0, none⟩ = some (.int .i64 (i2 : Int)) := KB.cell 0
        have k1 : wk.cell? ⟨wa.heap.size, 1, none⟩ = some (.bool L) := KB.cell 1
        have k2 : wk.cell? ⟨wa.heap.size, 2, none⟩ = some (.int .i64 0) := KB.cell 2
        have klt : wa.heap.size < wk.heap.size := KB.lt
        have HKB := Lib.hid KB; clear KB
        go_upto_region 9 with fail
        rw [← hwk]
        clear hwk
        have HOWN := Lib.hid (own_below HR.out.own hbk.out)
        have HSZ : Hid (w1.heap.size ≤ wk.heap.size) := Lib.hid (Nat.le_trans HR.out.size hbk.out.size)
        by_cases hp : 0 < n
        · have hgt : (i : Int) < (i2 : Int) := by have := HI2.out; omega
          have hgo := HGO.out hp
          replace HGO := Lib.hid hgo; clear hgo
          have HP := Lib.hid hp; clear hp
          cases L
          · go_wp2
            go_roundw
            case rel => exact ⟨M, i2, _, rfl, rfl, hin, ⟨HW.out, HSZ.out, RES.out, HOWN.out, by rw [← HR.out.left, HGO.out]; simp, by have := HI2.out; omega, HR.out.kinds⟩⟩
            case measure => have := HI2.out; have := HP.out; simp [intOf]; omega
          · cases E
            · go_wp2_with fail
              refine (KE.out _ (HRD.out.below hbk.out)).mono ?_
              rintro e wb ⟨rfl, hbb⟩
              have n0 : wb.cell? ⟨wa.heap.size, 0, none⟩ = some (.int .i64 (i2 : Int)) := (HKB.out.below hbb HKB.out.lt).cell 0
              have nlt : wa.heap.size < wb.heap.size := (HKB.out.below hbb HKB.out.lt).lt
              have HBB := Lib.hid hbb; clear hbb
              clear k0 k1 k2 klt
              go_wp2
              go_roundw
              case rel => exact ⟨M, i2, _, rfl, rfl, hin, ⟨bel_trans HW.out HBB.out, Nat.le_trans HSZ.out HBB.out.size, RES.out.below HBB.out RES.out.lt, own_below HOWN.out HBB.out, by rw [← HR.out.left, HGO.out]; simp [withNl, HE.out], by have := HI2.out; omega, HR.out.kinds⟩⟩
              case measure => have := HI2.out; have := HP.out; simp [intOf]; omega
            · go_wp2_with fail
              refine (KE.out _ (HRD.out.below hbk.out)).mono ?_
              rintro e wb ⟨rfl, hbb⟩
              have HBB := Lib.hid hbb; clear hbb
              clear k0 k1 k2 klt
              replace HKB := Lib.hid (HKB.out.below HBB.out HKB.out.lt)
              replace RES := Lib.hid (RES.out.below HBB.out RES.out.lt)
              replace HOWN := Lib.hid (own_below HOWN.out HBB.out)
              replace HSZ := Lib.hid (Nat.le_trans HSZ.out HBB.out.size)
              replace HW := Lib.hid (bel_trans HW.out HBB.out)
              go_wp2_with (at_builtin; refine wpList_app _ rfl _ _ 22 rfl w1.heap.size 39 (.agg #[.int .i64 0, .string ByteArray.empty, .int .i64 0]) 3 32 (by kernel_rfl) info_tok rfl (by decide) _ M.length (M.flatMap Tk.cells) rfl _ 1 1 [.int .i64 6, .string ⟨#[10]⟩, .int .i64 (i : Int)] rfl rfl (tk_one _ _ _) ?own ?rd ?c1 ?c2 ?c3 ?_)
              case own => exact own_below HOWN.out (bel_alloc (bel_refl _) _)
              case rd => exact Rd.newAt wb _ _ _ _ (by simp) (by simp)
              case c1 => unfold maxLen; omega
              case c2 => omega
              case c3 => have := HSZ.out; simp; omega
              intro v9 w9 hown hgr hbel
              have HK9 : Hid (Blk w9 wa.heap.size 44 #[.int .i64 (i2 : Int), .bool true, .int .i64 0]) := Lib.hid (blk_kept (HKB.out.alloc _) (own_below HOWN.out (bel_alloc (bel_refl _) _)) (by decide) hgr)
              have n0 : w9.cell? ⟨wa.heap.size, 0, none⟩ = some (.int .i64 (i2 : Int)) := HK9.out.cell 0
              have nlt : wa.heap.size < w9.heap.size := HK9.out.lt
              have R9 : Hid (RScR w w1 w9 s (M ++ [⟨6, nlT, i⟩]) i2 v9) := Lib.hid ⟨(bel_alloc HW.out _).trans (hbel.mono (by have := HLT.out; omega)), by have := hbel.size; exact Nat.le_trans HSZ.out (Nat.le_trans (by simp) this), (RES.out.alloc _).below hbel (by have := HLT.out; omega), by rw [List.flatMap_append, List.length_append]; exact hown, by rw [← HR.out.left, HGO.out]; simp [withNl, HE.out], by have := HI2.out; have := HP.out; rw [List.length_append]; show M.length + 1 ≤ i2; omega, fun t ht => by
                rcases List.mem_append.1 ht with ht | ht
                · exact HR.out.kinds t ht
                · rw [List.mem_singleton.1 ht]; exact (by decide : 1 ≤ 6 ∧ 6 ≤ 7)⟩
              clear hown hgr hbel
              go_wp2
              go_roundw
              case rel => exact ⟨_, i2, _, rfl, rfl, hin, R9.out⟩
              case measure => have := HI2.out; have := HP.out; simp [intOf]; omega
        · obtain rfl : n = 0 := by omega
          have hii : i2 = i := by have := HI2.out; omega
          subst hii
          have hl0 := HZ.out rfl
          subst hl0
          have KT := Lib.hid (fun W => refToken_any s i2 W (by omega) hlt)
          have HT := Lib.hid (fun h => tok_le (tl s i2) (tl_size s hlt) h)
          have hgo : scanFrom s M i2 = if (tokOf (tl s i2)).2.2 ≠ 0 then ([], i2, (tokOf (tl s i2)).2.2) else scanFrom s (M ++ [⟨(tokOf (tl s i2)).1, s.extract i2 (i2 + (tokOf (tl s i2)).2.1), i2⟩]) (i2 + (tokOf (tl s i2)).2.1) := by
            rw [scan_step hlt, HNL.out.1, if_neg (show ¬ (((0 : Nat) : Int) < 0) by decide), if_neg (show ¬ (0 < ((0 : Nat) : Int)) by decide)]
          obtain ⟨r, hr⟩ : ∃ r, tokOf (tl s i2) = r := ⟨_, rfl⟩
          rw [hr] at hgo KT HT
          clear hr hp
          obtain ⟨k, m, er⟩ := r
          replace HGO := Lib.hid hgo; clear hgo
          unfold tokAt at KT
          simp only at KT
          by_cases her : er = 0
          · subst her
            obtain ⟨t1, t2, t3, t4⟩ := HT.out rfl
            rw [tl_is] at t2
            have hin2 : i2 + m ≤ s.size := by have : m ≤ s.size - i2 := t2; omega
            have HPS : Hid (0 < m) := Lib.hid t1
            have HK17 : Hid (1 ≤ k ∧ k ≤ 7) := Lib.hid ⟨t3, t4⟩
            rw [if_pos rfl] at KT
            obtain ⟨j, hj⟩ : ∃ j, i2 + m = j := ⟨_, rfl⟩
            rw [hj] at KT hin2
            have HJ := Lib.hid (show j = i2 + m from hj.symm); clear hj t1 t2 t3 t4
            have hin1 : (j : Int) ≤ (s.size : Int) := by omega
            have hin3 : (i2 : Int) ≤ (j : Int) := by have := HJ.out; omega
            go_wp2_with fail
            refine (KT.out _).mono ?_
            rintro e wt ⟨rfl, hbt⟩
            obtain ⟨wc, hwc⟩ : ∃ wc, wc = wt.alloc (.cells #[.int .i64 (k : Int), .int .i64 (j : Int), .int .i64 0] 47) := ⟨_, rfl⟩
            have hbl : Below wk.heap.size wk wc := by rw [hwc]; exact bel_alloc hbt _
            replace RES := Lib.hid (RES.out.below hbl RES.out.lt)
            replace HOWN := Lib.hid (own_below HOWN.out hbl)
            replace HSZ := Lib.hid (Nat.le_trans HSZ.out hbl.size)
            replace HW := Lib.hid (bel_trans HW.out hbl); clear hbl
            have TB : Blk wc wt.heap.size 47 #[.int .i64 (k : Int), .int .i64 (j : Int), .int .i64 0] := by
              have hz := Blk.new wt 47 #[.int .i64 (k : Int), .int .i64 (j : Int), .int .i64 0]
              rw [hwc]
              exact hz
            clear k0 k1 k2 klt
            have c0 : wc.cell? ⟨wt.heap.size, 0, none⟩ = some (.int .i64 (k : Int)) := TB.cell 0
            have c1 : wc.cell? ⟨wt.heap.size, 1, none⟩ = some (.int .i64 (j : Int)) := TB.cell 1
            have c2 : wc.cell? ⟨wt.heap.size, 2, none⟩ = some (.int .i64 0) := TB.cell 2
            have clt : wt.heap.size < wc.heap.size := TB.lt
            have HTB := Lib.hid TB; clear TB
            go_upto_region 18 with fail
            rw [← hwc]
            clear hwc
            go_region_law ((refine step_app _ rfl (.tmp 59) (.tmp 69) 22 rfl w1.heap.size 39 (.agg #[.int .i64 0, .string ByteArray.empty, .int .i64 0]) 3 32 (by kernel_rfl) info_tok rfl (by decide) v0 M.length (M.flatMap Tk.cells) rfl (some ⟨wc.heap.size, 0, none⟩) 1 1 [.int .i64 (k : Int), .string (s.extract i2 j), .int .i64 (i2 : Int)] rfl rfl (tk_one _ _ _) (own_below HOWN.out (bel_alloc ((bel_refl _).drew) _)) (Rd.newAt wc.drew _ _ _ _ (by simp) (by simp)) (by unfold maxLen; omega) (by omega) (by have := HSZ.out; simp; omega) ?_; intro v9 w9 hown hgr hbel))
            all_goals
              have HT9 : Hid (Blk w9 wt.heap.size 47 #[.int .i64 (k : Int), .int .i64 (j : Int), .int .i64 0]) := Lib.hid (blk_kept ((HTB.out.below (bel_refl wc).drew HTB.out.lt).alloc _) (own_below HOWN.out (bel_alloc ((bel_refl _).drew) _)) (by decide) hgr)
              have m1 : w9.cell? ⟨wt.heap.size, 1, none⟩ = some (.int .i64 (j : Int)) := HT9.out.cell 1
              have mlt : wt.heap.size < w9.heap.size := HT9.out.lt
              have R9 : Hid (RScR w w1 w9 s (M ++ [⟨k, s.extract i2 j, i2⟩]) j v9) := Lib.hid ⟨(bel_alloc (bel_trans HW.out (bel_refl wc).drew) _).trans (hbel.mono (by have := HLT.out; omega)), by have := hbel.size; exact Nat.le_trans HSZ.out (Nat.le_trans (by simp) this), ((RES.out.below (bel_refl wc).drew RES.out.lt).alloc _).below hbel (by have := HLT.out; omega), by rw [List.flatMap_append, List.length_append]; exact hown, by rw [← HR.out.left, HGO.out, HJ.out]; rfl, by have := HJ.out; have := HPS.out; rw [List.length_append]; show M.length + 1 ≤ j; omega, fun t ht => by
                rcases List.mem_append.1 ht with ht | ht
                · exact HR.out.kinds t ht
                · rw [List.mem_singleton.1 ht]; exact HK17.out⟩
              clear hown hgr hbel c0 c1 c2 clt
              go_wp2
              go_roundw
              case rel => exact ⟨_, j, _, rfl, rfl, hin2, R9.out⟩
              case measure => have := HJ.out; have := HPS.out; simp [intOf]; omega
          · have q1 : ((er : Int) != 0) = true := by simp only [bne_iff_ne, ne_eq]; omega
            have q2 : ¬ (er : Int) = 0 := by omega
            have q3 : ((er : Int) == 0) = false := by simp only [beq_eq_false_iff_ne, ne_eq]; omega
            have HER := Lib.hid her
            rw [if_neg her] at KT
            clear her
            go_wp2_with fail
            refine (KT.out _).mono ?_
            rintro e wt ⟨rfl, hbt⟩
            obtain ⟨wc, hwc⟩ : ∃ wc, wc = wt.alloc (.cells #[.int .i64 (k : Int), .int .i64 0, .int .i64 (er : Int)] 47) := ⟨_, rfl⟩
            have hbl : Below wk.heap.size wk wc := by rw [hwc]; exact bel_alloc hbt _
            replace RES := Lib.hid (RES.out.below hbl RES.out.lt)
            replace HW := Lib.hid (bel_trans HW.out hbl); clear hbl
            have TB : Blk wc wt.heap.size 47 #[.int .i64 (k : Int), .int .i64 0, .int .i64 (er : Int)] := by
              have hz := Blk.new wt 47 #[.int .i64 (k : Int), .int .i64 0, .int .i64 (er : Int)]
              rw [hwc]
              exact hz
            clear k0 k1 k2 klt
            have c2 : wc.cell? ⟨wt.heap.size, 2, none⟩ = some (.int .i64 (er : Int)) := TB.cell 2
            have clt : wt.heap.size < wc.heap.size := TB.lt
            have HTB := Lib.hid TB; clear TB
            go_upto_region 16 with fail
            rw [← hwc]
            clear hwc
            have d0 : wc.cell? ⟨w.heap.size, 0, none⟩ = some (.slice none 0 0) := RES.out.cell 0
            have f0 : wc.frozen? ⟨w.heap.size, 0, none⟩ = false := RES.out.frozen 0
            have d1 : wc.cell? ⟨w.heap.size, 1, none⟩ = some (.int .i64 0) := RES.out.cell 1
            have f1 : wc.frozen? ⟨w.heap.size, 1, none⟩ = false := RES.out.frozen 1
            have d2 : wc.cell? ⟨w.heap.size, 2, none⟩ = some (.int .i64 0) := RES.out.cell 2
            have f2 : wc.frozen? ⟨w.heap.size, 2, none⟩ = false := RES.out.frozen 2
            have hlw : w.heap.size < wc.heap.size := RES.out.lt
            have D := Lib.hid (And.intro (RES.out.put3 (.slice none 0 0) (.int .i64 (i2 : Int)) (.int .i64 (er : Int))) (bel_set3 (g := w.heap.size) HW.out (Nat.le_refl _) (.slice none 0 0) (.int .i64 (i2 : Int)) (.int .i64 (er : Int))))
            go_wp2
            refine bodyPost_ret (v := .agg #[.slice none 0 0, .int .i64 (i2 : Int), .int .i64 (er : Int)]) ?hr4 rfl ?hhr4
            case hhr4 => exact ⟨none, 0, by rw [← HR.out.left, HGO.out, if_pos HER.out]; rfl, by rw [← HR.out.left, HGO.out, if_pos HER.out]; exact TksR.nil, D.out.2⟩
            case hr4 => exact results_cell_row rfl _ _ w.heap.size 27 _ (0, 0) _ rfl D.out.1 Tryd.underlying27 rfl (by kernel_rfl)
    · have hlt' : ¬ (i : Int) < (s.size : Int) := by omega
      obtain ⟨A, cap, rfl, hcp, hrd⟩ := own_tks HR.out.own rfl
      have hml := HR.out.len
      obtain ⟨E, hE⟩ : ∃ E, endsB M = E := ⟨_, rfl⟩
      have KE := Lib.hid (show Calls Tryd.prog 18 #[.slice A M.length cap] wr (RetBw E wr) by rw [← hE]; exact refEnds_any M A cap wr (by omega) hrd HR.out.kinds)
      have HE := Lib.hid hE; clear hE hrd
      have HSZ0 := HR.out.size
      go_wp2_with fail
      refine KE.out.mono ?_
      rintro e wb ⟨rfl, hbb⟩
      have HSZ := Lib.hid (Nat.le_trans HSZ0 hbb.size)
      have HOWN := Lib.hid (own_below HR.out.own hbb)
      replace RES := Lib.hid (RES.out.below hbb RES.out.lt)
      replace HW := Lib.hid (bel_trans HW.out hbb); clear hbb HSZ0
      cases E
      · have HWN : Hid (withNl M i = M) := Lib.hid (by unfold withNl; rw [HE.out]; rfl)
        go_wp2_with (at_builtin; refine wpList_app _ rfl _ _ 22 rfl w1.heap.size 39 (.agg #[.int .i64 0, .string ByteArray.empty, .int .i64 0]) 3 32 (by kernel_rfl) info_tok rfl (by decide) _ M.length (M.flatMap Tk.cells) rfl _ 1 1 [.int .i64 0, .string ByteArray.empty, .int .i64 (i : Int)] rfl rfl (tk_one _ _ _) ?own ?rd ?c1 ?c2 ?c3 ?_)
        case own => exact own_below HOWN.out (bel_alloc (bel_refl _) _)
        case rd => exact Rd.newAt wb _ _ _ _ (by simp) (by simp)
        case c1 => unfold maxLen; omega
        case c2 => omega
        case c3 => have := HSZ.out; simp; omega
        intro v9 w9 hown hgr hbel
        have HO9 : Hid (w9.ownsRow w1.heap.size 39 3 v9 (M.length + 1) ((M ++ [(⟨0, ByteArray.empty, i⟩ : Tk)]).flatMap Tk.cells)) := Lib.hid (by rw [List.flatMap_append]; first | exact hown | (rw [hl8]; exact hown))
        replace RES := Lib.hid ((RES.out.alloc _).below hbel (by have := HLT.out; omega))
        replace HW := Lib.hid ((bel_alloc HW.out _).trans (hbel.mono (by have := HLT.out; omega)))
        clear hown hgr hbel
        obtain ⟨A9, c9, rfl, hc9, hr9⟩ := own_tks HO9.out (by rw [List.length_append]; rfl)
        have hl9 : (M ++ [(⟨0, ByteArray.empty, i⟩ : Tk)]).length = M.length + 1 := by rw [List.length_append]; rfl
        obtain ⟨n9, hn9⟩ : ∃ n9, (M ++ [(⟨0, ByteArray.empty, i⟩ : Tk)]).length = n9 := ⟨_, rfl⟩
        have HR9 := Lib.hid hr9
        have HOK : Hid (∀ x y, TksR (((w9.setCell ⟨w.heap.size, 0, none⟩ x).setCell ⟨w.heap.size, 1, none⟩ y).setCell ⟨w.heap.size, 2, none⟩ (.int .i64 0)) A9 (M ++ [(⟨0, ByteArray.empty, i⟩ : Tk)])) := Lib.hid (fun x y => by
          have h9 := own_under (own_under (own_under HO9.out (p := ⟨w.heap.size, 0, none⟩) HLT.out x) (p := ⟨w.heap.size, 1, none⟩) HLT.out y) (p := ⟨w.heap.size, 2, none⟩) HLT.out (.int .i64 0)
          obtain ⟨A8, c8, e8, _, hr8⟩ := own_tks h9 (by rw [List.length_append]; rfl)
          injection e8 with e8
          rw [e8]
          exact hr8)
        rw [hn9] at hl9
        simp only [hn9]
        have HN9 := Lib.hid (And.intro hn9 hl9); clear hn9 hl9 hr9
        by_cases h15 : 1500 < n9
        · have h15' : (1500 : Int) < (n9 : Int) := by omega
          have d0 : w9.cell? ⟨w.heap.size, 0, none⟩ = some (.slice none 0 0) := RES.out.cell 0
          have f0 : w9.frozen? ⟨w.heap.size, 0, none⟩ = false := RES.out.frozen 0
          have d1 : w9.cell? ⟨w.heap.size, 1, none⟩ = some (.int .i64 0) := RES.out.cell 1
          have f1 : w9.frozen? ⟨w.heap.size, 1, none⟩ = false := RES.out.frozen 1
          have d2 : w9.cell? ⟨w.heap.size, 2, none⟩ = some (.int .i64 0) := RES.out.cell 2
          have f2 : w9.frozen? ⟨w.heap.size, 2, none⟩ = false := RES.out.frozen 2
          have hlw : w.heap.size < w9.heap.size := RES.out.lt
          have D := Lib.hid (And.intro (RES.out.put3 (.slice none 0 0) (.int .i64 0) (.int .i64 7)) (bel_set3 (g := w.heap.size) HW.out (Nat.le_refl _) (.slice none 0 0) (.int .i64 0) (.int .i64 7)))
          go_wp2
          refine bodyPost_ret (v := .agg #[.slice none 0 0, .int .i64 0, .int .i64 7]) ?hr6 rfl ?hhr6
          case hhr6 => exact ⟨none, 0, by
              rw [← HR.out.left, scan_out hlt]
              unfold lastly
              rw [HWN.out, if_pos (by have := HN9.out.2; have := HN9.out.1; omega)]
              rfl, by
              rw [← HR.out.left, scan_out hlt]
              unfold lastly
              rw [HWN.out, if_pos (by have := HN9.out.2; have := HN9.out.1; omega)]
              exact TksR.nil, D.out.2⟩
          case hr6 => exact results_cell_row rfl _ _ w.heap.size 27 _ (0, 0) _ rfl D.out.1 Tryd.underlying27 rfl (by kernel_rfl)
        · have h15' : ¬ (1500 : Int) < (n9 : Int) := by omega
          have d0 : w9.cell? ⟨w.heap.size, 0, none⟩ = some (.slice none 0 0) := RES.out.cell 0
          have f0 : w9.frozen? ⟨w.heap.size, 0, none⟩ = false := RES.out.frozen 0
          have d1 : w9.cell? ⟨w.heap.size, 1, none⟩ = some (.int .i64 0) := RES.out.cell 1
          have f1 : w9.frozen? ⟨w.heap.size, 1, none⟩ = false := RES.out.frozen 1
          have d2 : w9.cell? ⟨w.heap.size, 2, none⟩ = some (.int .i64 0) := RES.out.cell 2
          have f2 : w9.frozen? ⟨w.heap.size, 2, none⟩ = false := RES.out.frozen 2
          have hlw : w.heap.size < w9.heap.size := RES.out.lt
          have D := Lib.hid (And.intro (RES.out.put3 (.slice A9 n9 c9) (.int .i64 0) (.int .i64 0)) (bel_set3 (g := w.heap.size) HW.out (Nat.le_refl _) (.slice A9 n9 c9) (.int .i64 0) (.int .i64 0)))
          go_wp2
          refine bodyPost_ret (v := .agg #[.slice A9 n9 c9, .int .i64 0, .int .i64 0]) ?hr7 rfl ?hhr7
          case hhr7 => exact ⟨A9, c9, by
              rw [← HR.out.left, scan_out hlt]
              unfold lastly
              rw [HWN.out, if_neg (by have := HN9.out.2; have := HN9.out.1; omega), HN9.out.1]
              rfl, by
              rw [← HR.out.left, scan_out hlt]
              unfold lastly
              rw [HWN.out, if_neg (by have := HN9.out.2; have := HN9.out.1; omega)]
              exact HOK.out _ _, D.out.2⟩
          case hr7 => exact results_cell_row rfl _ _ w.heap.size 27 _ (0, 0) _ rfl D.out.1 Tryd.underlying27 rfl (by kernel_rfl)
      · have HWN : Hid (withNl M i = M ++ [⟨6, nlT, i⟩]) := Lib.hid (by unfold withNl; rw [HE.out]; rfl)
        go_wp2_with (at_builtin; refine wpList_app _ rfl _ _ 22 rfl w1.heap.size 39 (.agg #[.int .i64 0, .string ByteArray.empty, .int .i64 0]) 3 32 (by kernel_rfl) info_tok rfl (by decide) _ M.length (M.flatMap Tk.cells) rfl _ 1 1 [.int .i64 6, .string ⟨#[10]⟩, .int .i64 (i : Int)] rfl rfl (tk_one _ _ _) ?own ?rd ?c1 ?c2 ?c3 ?_)
        case own => exact own_below HOWN.out (bel_alloc (bel_refl _) _)
        case rd => exact Rd.newAt wb _ _ _ _ (by simp) (by simp)
        case c1 => unfold maxLen; omega
        case c2 => omega
        case c3 => have := HSZ.out; simp; omega
        intro v8 w8 hown hgr hbel
        have hl8 : (M ++ [(⟨6, nlT, i⟩ : Tk)]).length = M.length + 1 := by rw [List.length_append]; rfl
        have HO8 : Hid (w8.ownsRow w1.heap.size 39 3 v8 (M ++ [(⟨6, nlT, i⟩ : Tk)]).length ((M ++ [(⟨6, nlT, i⟩ : Tk)]).flatMap Tk.cells)) := Lib.hid (by rw [List.flatMap_append, hl8]; exact hown)
        replace HSZ := Lib.hid (Nat.le_trans HSZ.out (Nat.le_trans (by simp) hbel.size))
        replace RES := Lib.hid ((RES.out.alloc _).below hbel (by have := HLT.out; omega))
        replace HW := Lib.hid ((bel_alloc HW.out _).trans (hbel.mono (by have := HLT.out; omega)))
        clear hown hgr hbel
        obtain ⟨M1, hM1⟩ : ∃ M1, M ++ [(⟨6, nlT, i⟩ : Tk)] = M1 := ⟨_, rfl⟩
        rw [hM1] at HWN HO8 hl8
        clear hM1
        have hm1 : M1.length ≤ 4001 := by omega
        obtain ⟨A1, cap1, rfl, hcp1, hrd1⟩ := own_tks HO8.out rfl
        clear hrd1
        go_wp2_with (at_builtin; refine wpList_app _ rfl _ _ 22 rfl w1.heap.size 39 (.agg #[.int .i64 0, .string ByteArray.empty, .int .i64 0]) 3 32 (by kernel_rfl) info_tok rfl (by decide) _ M1.length (M1.flatMap Tk.cells) rfl _ 1 1 [.int .i64 0, .string ByteArray.empty, .int .i64 (i : Int)] rfl rfl (tk_one _ _ _) ?own ?rd ?c1 ?c2 ?c3 ?_)
        case own => exact own_below HO8.out (bel_alloc (bel_refl _) _)
        case rd => exact Rd.newAt w8 _ _ _ _ (by simp) (by simp)
        case c1 => unfold maxLen; omega
        case c2 => omega
        case c3 => have := HSZ.out; simp; omega
        intro v9 w9 hown hgr hbel
        have HO9 : Hid (w9.ownsRow w1.heap.size 39 3 v9 (M1.length + 1) ((M1 ++ [(⟨0, ByteArray.empty, i⟩ : Tk)]).flatMap Tk.cells)) := Lib.hid (by rw [List.flatMap_append]; first | exact hown | (rw [hl8]; exact hown))
        replace RES := Lib.hid ((RES.out.alloc _).below hbel (by have := HLT.out; omega))
        replace HW := Lib.hid ((bel_alloc HW.out _).trans (hbel.mono (by have := HLT.out; omega)))
        clear hown hgr hbel
        obtain ⟨A9, c9, rfl, hc9, hr9⟩ := own_tks HO9.out (by rw [List.length_append]; rfl)
        have hl9 : (M1 ++ [(⟨0, ByteArray.empty, i⟩ : Tk)]).length = M1.length + 1 := by rw [List.length_append]; rfl
        obtain ⟨n9, hn9⟩ : ∃ n9, (M1 ++ [(⟨0, ByteArray.empty, i⟩ : Tk)]).length = n9 := ⟨_, rfl⟩
        have HR9 := Lib.hid hr9
        have HOK : Hid (∀ x y, TksR (((w9.setCell ⟨w.heap.size, 0, none⟩ x).setCell ⟨w.heap.size, 1, none⟩ y).setCell ⟨w.heap.size, 2, none⟩ (.int .i64 0)) A9 (M1 ++ [(⟨0, ByteArray.empty, i⟩ : Tk)])) := Lib.hid (fun x y => by
          have h9 := own_under (own_under (own_under HO9.out (p := ⟨w.heap.size, 0, none⟩) HLT.out x) (p := ⟨w.heap.size, 1, none⟩) HLT.out y) (p := ⟨w.heap.size, 2, none⟩) HLT.out (.int .i64 0)
          obtain ⟨A8, c8, e8, _, hr8⟩ := own_tks h9 (by rw [List.length_append]; rfl)
          injection e8 with e8
          rw [e8]
          exact hr8)
        rw [hn9] at hl9
        simp only [hn9]
        have HN9 := Lib.hid (And.intro hn9 hl9); clear hn9 hl9 hr9
        by_cases h15 : 1500 < n9
        · have h15' : (1500 : Int) < (n9 : Int) := by omega
          have d0 : w9.cell? ⟨w.heap.size, 0, none⟩ = some (.slice none 0 0) := RES.out.cell 0
          have f0 : w9.frozen? ⟨w.heap.size, 0, none⟩ = false := RES.out.frozen 0
          have d1 : w9.cell? ⟨w.heap.size, 1, none⟩ = some (.int .i64 0) := RES.out.cell 1
          have f1 : w9.frozen? ⟨w.heap.size, 1, none⟩ = false := RES.out.frozen 1
          have d2 : w9.cell? ⟨w.heap.size, 2, none⟩ = some (.int .i64 0) := RES.out.cell 2
          have f2 : w9.frozen? ⟨w.heap.size, 2, none⟩ = false := RES.out.frozen 2
          have hlw : w.heap.size < w9.heap.size := RES.out.lt
          have D := Lib.hid (And.intro (RES.out.put3 (.slice none 0 0) (.int .i64 0) (.int .i64 7)) (bel_set3 (g := w.heap.size) HW.out (Nat.le_refl _) (.slice none 0 0) (.int .i64 0) (.int .i64 7)))
          go_wp2
          refine bodyPost_ret (v := .agg #[.slice none 0 0, .int .i64 0, .int .i64 7]) ?hr10 rfl ?hhr10
          case hhr10 => exact ⟨none, 0, by
              rw [← HR.out.left, scan_out hlt]
              unfold lastly
              rw [HWN.out, if_pos (by have := HN9.out.2; have := HN9.out.1; omega)]
              rfl, by
              rw [← HR.out.left, scan_out hlt]
              unfold lastly
              rw [HWN.out, if_pos (by have := HN9.out.2; have := HN9.out.1; omega)]
              exact TksR.nil, D.out.2⟩
          case hr10 => exact results_cell_row rfl _ _ w.heap.size 27 _ (0, 0) _ rfl D.out.1 Tryd.underlying27 rfl (by kernel_rfl)
        · have h15' : ¬ (1500 : Int) < (n9 : Int) := by omega
          have d0 : w9.cell? ⟨w.heap.size, 0, none⟩ = some (.slice none 0 0) := RES.out.cell 0
          have f0 : w9.frozen? ⟨w.heap.size, 0, none⟩ = false := RES.out.frozen 0
          have d1 : w9.cell? ⟨w.heap.size, 1, none⟩ = some (.int .i64 0) := RES.out.cell 1
          have f1 : w9.frozen? ⟨w.heap.size, 1, none⟩ = false := RES.out.frozen 1
          have d2 : w9.cell? ⟨w.heap.size, 2, none⟩ = some (.int .i64 0) := RES.out.cell 2
          have f2 : w9.frozen? ⟨w.heap.size, 2, none⟩ = false := RES.out.frozen 2
          have hlw : w.heap.size < w9.heap.size := RES.out.lt
          have D := Lib.hid (And.intro (RES.out.put3 (.slice A9 n9 c9) (.int .i64 0) (.int .i64 0)) (bel_set3 (g := w.heap.size) HW.out (Nat.le_refl _) (.slice A9 n9 c9) (.int .i64 0) (.int .i64 0)))
          go_wp2
          refine bodyPost_ret (v := .agg #[.slice A9 n9 c9, .int .i64 0, .int .i64 0]) ?hr11 rfl ?hhr11
          case hhr11 => exact ⟨A9, c9, by
              rw [← HR.out.left, scan_out hlt]
              unfold lastly
              rw [HWN.out, if_neg (by have := HN9.out.2; have := HN9.out.1; omega), HN9.out.1]
              rfl, by
              rw [← HR.out.left, scan_out hlt]
              unfold lastly
              rw [HWN.out, if_neg (by have := HN9.out.2; have := HN9.out.1; omega)]
              exact HOK.out _ _, D.out.2⟩
          case hr11 => exact results_cell_row rfl _ _ w.heap.size 27 _ (0, 0) _ rfl D.out.1 Tryd.underlying27 rfl (by kernel_rfl)
theorem refScan_any (s : ByteArray) (w : World) : Calls Tryd.prog 5 #[.string s] w (RetR (scanAll s) w) := by
  unfold scanAll
  by_cases h1 : 4000 < s.size
  · rw [if_pos h1]
    exact refScan_long s w h1
  · rw [if_neg h1]
    by_cases h2 : sp s 0 = -1
    · rw [if_pos h2]
      exact refScan_good s w (by omega) h2
    · rw [if_neg h2]
      have := sp_nn s _ 0 rfl
      exact refScan_bad s w _ (by omega) (by omega)
end Go.Proofs.YtkaafakodeeidaaDoor
