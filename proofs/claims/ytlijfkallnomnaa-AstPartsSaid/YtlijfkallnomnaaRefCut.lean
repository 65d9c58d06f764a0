/-
  The reference's Cut.
-/
import Derived.Test.YtlijfkallnomnaaCutSpec
import Derived.Test.YtlijfkallnomnaaOwn2
namespace Go.Proofs.Ytlijfkallnomnaa
open Go.RowKit

/-- The nodes that have been laid: their data, their own row, and a row of its own for each one's kids. -/
structure OutRel (B : Nat) (wr : World) (v : Value) (M : List Nd) : Prop where
  own : wr.ownsRow B 37 4 v M.length (M.flatMap Nd.cells)
  kids : ∀ nd, nd ∈ M → wr.ownsRow B 3 1 (.slice nd.ka nd.kids.length nd.kc) nd.kids.length (ints .i64 nd.kids)

theorem OutRel.below {B : Nat} {w w' : World} {v : Value} {M : List Nd} (h : OutRel B w v M) (hb : Below w.heap.size w w') : OutRel B w' v M :=
  ⟨own_below h.own hb, fun nd hnd => own_below (h.kids nd hnd) hb⟩
theorem OutRel.under {B : Nat} {w : World} {v : Value} {M : List Nd} (h : OutRel B w v M) {p : Addr} (hp : p.block < B) (u : Value) : OutRel B (w.setCell p u) v M :=
  ⟨own_under h.own hp u, fun nd hnd => own_under (h.kids nd hnd) hp u⟩
/-- One node more. -/
theorem OutRel.more {B : Nat} {w w' : World} {v v' : Value} {M : List Nd} {nd : Nd} (h : OutRel B w v M) (hk : w.ownsRow B 3 1 (.slice nd.ka nd.kids.length nd.kc) nd.kids.length (ints .i64 nd.kids))
    (hown : w'.ownsRow B 37 4 v' (M.length + 1) (M.flatMap Nd.cells ++ nd.cells)) (hg : w.grownBy w' v.ownBlock) : OutRel B w' v' (M ++ [nd]) := by
  refine ⟨?_, fun x hx => ?_⟩
  · rw [List.length_append, List.flatMap_append]
    simpa using hown
  · rcases List.mem_append.1 hx with hx | hx
    · exact own_kept (h.kids x hx) h.own (by decide) hg
    · rw [List.mem_singleton.1 hx]
      exact own_kept hk h.own (by decide) hg
/-- What has been laid reads as nodes. -/
theorem OutRel.nds {B : Nat} {w : World} {v : Value} {M : List Nd} (h : OutRel B w v M) (hl : M.length ≤ 140737488355328) (hk : ∀ nd, nd ∈ M → nd.kids.length ≤ 140737488355328) :
    ∃ A cap, v = .slice A M.length cap ∧ M.length ≤ cap ∧ NdsR w A M :=
  own_nds h.own rfl hl fun nd hnd => by
    obtain ⟨A, cap, e, h1, _, h3⟩ := own_rdI (h.kids nd hnd) rfl
    injection e with e1 e2 e3
    subst e1 e3
    exact ⟨h3, h1, hk nd hnd⟩

/-- A call that hands nodes back of which the data is known. -/
def RetDat (D : List Nd) (w : World) (e : Ending) (w' : World) : Prop :=
  ∃ A cap M, e = .returned (.slice A M.length cap) ∧ M.length ≤ cap ∧ NdsR w' A M ∧ M.map Nd.dat = D ∧ Below w.heap.size w w'

structure RCut (w W0 wr : World) (L : List Nd) (P : List Int) (v : Value) (k : Nat) (M : List Nd) : Prop where
  old : Below W0.heap.size W0 wr
  out : OutRel W0.heap.size wr v M
  dat : M.map Nd.dat = cutUpto L P k
  kl : ∀ nd, nd ∈ M → nd.kids.length ≤ 140737488355328

/-- The inner loop: the node's copy, and its new kids so far. -/
structure RKids (wr wj : World) (kd pl : Int) (tx : ByteArray) (P : List Int) (ks : List Int) (m : Nat) (vk : Value) : Prop where
  old : Below wr.heap.size wr wj
  node : Blk wj wr.heap.size 37 #[.int .i64 kd, .string tx, vk, .int .i64 pl]
  own : wj.ownsRow (wr.heap.size + 1) 3 1 vk m (ints .i64 (newKids P ks m))

set_option maxRecDepth 100000 in
set_option maxHeartbeats 1000000 in
theorem refCut_any (A : Option Addr) (cap : Nat) (L : List Nd) (hin : KidsIn L) (hfit : PartsFit L) (hl : L.length ≤ 2000) (i : Nat) (hi : i < L.length) (w : World) (h : NdsR w A L)
    (hkl : ∀ nd, nd ∈ L → nd.kids.length ≤ 2000) :
    Calls Try.prog 15 #[.slice A L.length cap, .int .i64 i] w (RetDat (cutD L i) w) := by
  have H := Lib.hid h; clear h
  have HKL := Lib.hid hkl; clear hkl
  have hPl : (pt L i).length ≤ L.length := hfit i hi
  go_enter Try.func15, Try.ntmps15
  go_wp2_with fail
  refine (part_any A cap L hin hfit hl i hi w H.out).mono ?_
  rintro e W0 ⟨AP, cP, rfl, hcP, hoP, hbP⟩
  have HBP := Lib.hid hbP; clear hbP
  obtain ⟨A', c', eP, _, _, hrP⟩ := own_rdI hoP rfl
  injection eP with e1 e2 e3
  subst e1 e3
  clear e2 hoP hin hfit
  have HRP := Lib.hid hrP; clear hrP
  obtain ⟨P, hP⟩ : ∃ P, P = pt L i := ⟨_, rfl⟩
  rw [← hP] at HRP hPl
  rw [← hP]
  have HP := Lib.hid hP; clear hP
  go_wp2_with fail
  go_loopw [6, 7] (fun v k wr => ∃ j : Nat, j ≤ i + 1 ∧ k = .int .i64 j ∧ ∃ M, RCut w W0 wr L P v j M) (fun _ k _ => i + 1 - (intOf k).toNat)
  case atStart => exact ⟨0, Nat.zero_le _, rfl, [], bel_alloc (bel_refl _) _, ⟨own_empty _ _ _ _ (Nat.le_refl _), by simp⟩, rfl, by simp⟩
  case round =>
    obtain ⟨k, hk, rfl, M, hrel⟩ := hrel
    have HR := Lib.hid hrel; clear hrel
    have hML : M.length ≤ k := by
      have h1 := congrArg List.length HR.out.dat
      rw [List.length_map] at h1
      rw [h1]
      exact cutUpto_len L P k
    by_cases hlt : k ≤ i
    · have hPr := HRP.out.below HR.out.old
      have HPR := Lib.hid hPr; clear hPr
      cases hmem : hasI k P
      case false =>
        have HM := Lib.hid hmem; clear hmem
        go_wp2_with (go_at_call 26; (with_reducible refine (in_any AP cP k P _ ?_ ?_).mono ?_); omega; exact HPR.out; rintro e w' ⟨rfl, rfl⟩; rw [HM.out])
        go_roundw
        case rel => exact ⟨k + 1, by omega, by go_num, M, HR.out.old, HR.out.out, by rw [HR.out.dat, cutUpto_no L HM.out], HR.out.kl⟩
        case measure => simp [intOf]; omega
      case true =>
        have HM := Lib.hid hmem; clear hmem
        obtain ⟨b, off, kd, tx, ka, kc, ks, pl, hA, hnd, hb, c0, c1, c2, c3, hkids, hkl, hkc⟩ := H.out.node (bel_trans HBP.out HR.out.old) (show k < L.length by omega)
        subst hA
        have hks : ks.length ≤ 2000 := by
          have := HKL.out (L.getD k default) (getD_mem (by omega))
          rw [← hnd] at this
          exact this
        have HN := Lib.hid hnd; clear hnd
        have HK := Lib.hid (hkids.below (bel_trans HBP.out HR.out.old)); clear hkids
        go_wp2_with (go_at_call 26; (with_reducible refine (in_any AP cP k P _ ?_ ?_).mono ?_); omega; exact HPR.out; rintro e w' ⟨rfl, rfl⟩; rw [HM.out])
        have HI : Hid (RKids wr (((wr.alloc (.cells #[.int .i64 kd, .string tx, .slice (some ⟨wr.heap.size + 1, 0, none⟩) 0 0, .int .i64 pl] 37)).alloc (.cells #[] 3))) kd pl tx P ks 0 (.slice (some ⟨wr.heap.size + 1, 0, none⟩) 0 0)) := by
          refine ⟨bel_alloc (bel_alloc (bel_refl _) _) _, (Blk.new _ _ _).alloc _, ?_⟩
          have := own_empty (wr.alloc (.cells #[.int .i64 kd, .string tx, .slice (some ⟨wr.heap.size + 1, 0, none⟩) 0 0, .int .i64 pl] 37)) (wr.heap.size + 1) 3 1 (by simp)
          rw [World.size_alloc] at this
          exact this
        clear c0 c1 c2 c3
        go_loopw [39] (fun j wj => ∃ m : Nat, m ≤ ks.length ∧ j = .int .i64 m ∧ ∃ vk, RKids wr wj kd pl tx P ks m vk) (fun j _ => ks.length - (intOf j).toNat)
        case atStart => exact ⟨0, Nat.zero_le _, rfl, _, HI.out⟩
        case round =>
          obtain ⟨w9, hw⟩ : ∃ x, x = wr := ⟨_, rfl⟩
          subst hw
          obtain ⟨m, hm, rfl, vk, hrel⟩ := hrel
          have HJ := Lib.hid hrel; clear hrel
          clear HI
          by_cases hmt : m < ks.length
          · obtain ⟨b', off', hka, hb', hcell⟩ := (HK.out.below HJ.out.old).at_ hmt
            subst hka
            obtain ⟨q, hq⟩ : ∃ q : Int, q = ks.getD m 0 := ⟨_, rfl⟩
            rw [← hq] at hcell
            have HQ := Lib.hid hq; clear hq
            have hn2 : w9.cell? ⟨wr.heap.size, 2, none⟩ = some vk := by rw [HJ.out.node.cell]; rfl
            have hz2 := HJ.out.node.frozen 2
            have hnl : wr.heap.size < w9.heap.size := HJ.out.node.lt
            have hPr9 := Lib.hid (HPR.out.below HJ.out.old)
            go_wp2
            go_loop [11, 45] (fun ah j => ∃ t : Nat, t ≤ P.length ∧ j = .int .i64 t ∧ ah = .int .i64 (aheadUpto P q t)) (fun _ j => P.length - (intOf j).toNat)
            case atStart => exact ⟨0, Nat.zero_le _, rfl, rfl⟩
            case round =>
              obtain ⟨t, ht, rfl, rfl⟩ := hrel
              have tb := aheadUpto_bounds P q t
              obtain ⟨tb0, tb1⟩ := tb
              by_cases htt : t < P.length
              · obtain ⟨bp, op, hAP, hbp, hcp⟩ := hPr9.out.at_ htt
                subst hAP
                have HS := Lib.hid (aheadUpto_succ P q htt)
                obtain ⟨x, hx⟩ : ∃ x : Int, x = P.getD t 0 := ⟨_, rfl⟩
                rw [← hx] at hcp HS
                clear hx
                by_cases hxq : x < q
                · go_wp2
                  go_round
                  case rel => exact ⟨t + 1, by omega, by go_num, by rw [HS.out, if_pos hxq]⟩
                  case measure => simp [intOf]; omega
                · go_wp2
                  go_round
                  case rel => exact ⟨t + 1, by omega, by go_num, by rw [HS.out, if_neg hxq, Int.add_zero]⟩
                  case measure => simp [intOf]; omega
              · have HA := Lib.hid (aheadUpto_all P q htt)
                go_wp2_with (at_builtin; refine wpList_app _ rfl _ _ 35 rfl (wr.heap.size + 1) 3 (.int .i64 0) 1 8 (by kernel_rfl) info_int rfl (by decide) _ m (ints .i64 (newKids P ks m)) rfl _ 1 1 (ints .i64 [aheadUpto P q t]) rfl rfl (ints_one _ _) ?own ?rd ?c1 ?c2 ?c3 ?_)
                case own => exact own_below HJ.out.own (bel_alloc (bel_refl _) _)
                case rd => exact (RdI.newAt _ .i64 [aheadUpto P q t] 3 _ rfl).src
                case c1 => unfold maxLen; omega
                case c2 => omega
                case c3 => first | omega | (simp; omega)
                intro v' w2 hown hgr hbel
                rw [ints_app, HA.out, HQ.out, ← newKids_succ P hmt] at hown
                obtain ⟨Av, cv, hv', _, _, _⟩ := own_rdI hown (newKids_len P (by omega)).symm
                subst hv'
                have hbN : Blk w2 wr.heap.size 37 #[.int .i64 kd, .string tx, vk, .int .i64 pl] := blk_kept (HJ.out.node.alloc _) (own_below HJ.out.own (bel_alloc (bel_refl _) _)) (by decide) hgr
                have hc2 : w2.cell? ⟨wr.heap.size, 2, none⟩ = some vk := by rw [hbN.cell]; rfl
                have hf2 := hbN.frozen 2
                have hl2 : wr.heap.size < w2.heap.size := hbN.lt
                have R : Hid (RKids wr (w2.setCell ⟨wr.heap.size, 2, none⟩ (.slice Av (newKids P ks (m + 1)).length cv)) kd pl tx P ks (m + 1) (.slice Av (newKids P ks (m + 1)).length cv)) := by
                  refine ⟨(((bel_alloc HJ.out.old _).trans (hbel.mono (by omega)))).setCell (Nat.le_refl _) _, hbN.put 2 _, ?_⟩
                  exact own_far hown hbN (by decide) _
                clear hown hgr hbel hbN
                go_wp2
                go_roundw
                case rel => exact ⟨m + 1, by omega, by go_num, _, R.out⟩
                case measure => simp [intOf]; omega
          · have hmk : m = ks.length := by omega
            subst hmk
            obtain ⟨Ak, ck, hvk, hck1, hck2, hrk⟩ := own_rdI HJ.out.own (newKids_len P (Nat.le_refl _)).symm
            have HO := Lib.hid HJ.out.own
            have n0 : w9.cell? ⟨wr.heap.size, 0, none⟩ = some (.int .i64 kd) := by rw [HJ.out.node.cell]; rfl
            have n1 : w9.cell? ⟨wr.heap.size, 0 + 1, none⟩ = some (.string tx) := by rw [HJ.out.node.cell]; rfl
            have n2 : w9.cell? ⟨wr.heap.size, 0 + 2, none⟩ = some vk := by rw [HJ.out.node.cell]; rfl
            have n3 : w9.cell? ⟨wr.heap.size, 0 + 3, none⟩ = some (.int .i64 pl) := by rw [HJ.out.node.cell]; rfl
            subst hvk
            have hnl : wr.heap.size < w9.heap.size := HJ.out.node.lt
            have hlm : (newKids P ks ks.length).length = ks.length := newKids_len P (Nat.le_refl _)
            have HLM := Lib.hid hlm
            clear hrk
            go_wp2_with (at_builtin; refine wpList_app _ rfl _ _ 22 rfl W0.heap.size 37 (.agg #[.int .i64 0, .string ByteArray.empty, .slice none 0 0, .int .i64 0]) 4 56 (by kernel_rfl) info_node rfl (by decide) _ M.length (M.flatMap Nd.cells) rfl _ 1 1 [.int .i64 kd, .string tx, .slice Ak (newKids P ks ks.length).length ck, .int .i64 pl] rfl rfl (nd_one _ _ _ _ _ _) ?own ?rd ?c1 ?c2 ?c3 ?_)
            case own => exact own_below (own_below HR.out.out.own HJ.out.old) (bel_alloc (bel_refl _) _)
            case rd => rw [HLM.out]; exact Rd.newAt w9 [.int .i64 kd, .string tx, .slice Ak ks.length ck, .int .i64 pl] 37 _ 4 rfl (Nat.le_refl _)
            case c1 => unfold maxLen; omega
            case c2 => omega
            case c3 => have h1 := HR.out.old.size; have h2 := HJ.out.old.size; first | omega | (simp; omega)
            intro v' w2 hown hgr hbel
            have hk2 : w9.ownsRow W0.heap.size 3 1 (.slice Ak (newKids P ks ks.length).length ck) (newKids P ks ks.length).length (ints .i64 (newKids P ks ks.length)) := by
              have := own_mono HO.out (base' := W0.heap.size) (by have h1 := HR.out.old.size; omega)
              rw [HLM.out] at this ⊢
              exact this
            have hcells : (⟨kd, tx, Ak, ck, newKids P ks ks.length, pl⟩ : Nd).cells = [.int .i64 kd, .string tx, .slice Ak ks.length ck, .int .i64 pl] := by simp only [Nd.cells, HLM.out]
            rw [← hcells] at hown
            have R : Hid (RCut w W0 w2 L P v' (k + 1) (M ++ [⟨kd, tx, Ak, ck, newKids P ks ks.length, pl⟩])) := by
              refine ⟨((bel_alloc (bel_trans HR.out.old HJ.out.old) _)).trans hbel, OutRel.more ((HR.out.out.below HJ.out.old).below (bel_alloc (bel_refl _) _)) (own_below hk2 (bel_alloc (bel_refl _) _)) hown hgr, ?_, ?_⟩
              · rw [List.map_append, HR.out.dat, cutUpto_yes L HM.out, ← HN.out, newKids_all]
                rfl
              · intro nd hnd
                rcases List.mem_append.1 hnd with hnd | hnd
                · exact HR.out.kl nd hnd
                · rw [List.mem_singleton.1 hnd]
                  show (newKids P ks ks.length).length ≤ _
                  omega
            clear hown hgr hbel hk2
            go_wp2
            go_roundw
            case rel => exact ⟨k + 1, by omega, by go_num, _, R.out⟩
            case measure => simp [intOf]; omega
    · have hkk : k = i + 1 := by omega
      have HKK := Lib.hid hkk; clear hkk
      obtain ⟨A', c', hv, hc, hn⟩ := HR.out.out.nds (by omega) HR.out.kl
      subst hv
      go_wp2
      go_ret
      refine ⟨A', c', M, rfl, hc, hn, ?_, bel_trans HBP.out HR.out.old⟩
      rw [HR.out.dat, HKK.out, cutD, ← HP.out]
end Go.Proofs.Ytlijfkallnomnaa
