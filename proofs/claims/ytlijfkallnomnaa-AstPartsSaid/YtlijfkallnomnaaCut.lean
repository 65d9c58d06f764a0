/-
  ast.Cut.
-/
import Derived.Test.YtlijfkallnomnaaMark
import Derived.Test.YtlijfkallnomnaaPartLaw
import Derived.Test.YtlijfkallnomnaaRefCut
import Derived.Test.YtlijfkallnomnaaDeep
import Derived.Laws.EntriesVeiled
namespace Go.Proofs.Ytlijfkallnomnaa
open Go.RowKit

theorem setAll_get {u : List Bool} {ps : List Int} (h : ∀ p, p ∈ ps → 0 ≤ p ∧ p < u.length) (j : Nat) : (setAll u ps).getD j false = (u.getD j false || hasI j ps) := by
  induction ps generalizing u with
  | nil => simp [setAll, hasI]
  | cons p r ih =>
    have hp := h p (by simp)
    rw [setAll_cons, ih (fun q hq => by rw [List.length_set]; exact h q (by simp [hq])), getD_set_bool _ _ _ (by omega)]
    have : hasI j (p :: r) = (decide (j = p.toNat) || hasI j r) := by
      unfold hasI
      rw [List.contains_cons]
      congr 1
      rw [Bool.eq_iff_iff]
      simp
      omega
    rw [this, Bool.or_assoc]

/-- The places of those of P below k; 0 elsewhere. -/
def placeRow (n : Nat) (P : List Int) (k : Nat) : List Int := (List.range n).map fun j => if j < k ∧ hasI j P = true then ((mem P j).length : Int) else 0
theorem placeRow_len (n : Nat) (P : List Int) (k : Nat) : (placeRow n P k).length = n := by simp [placeRow]
theorem placeRow_get (n : Nat) (P : List Int) (k j : Nat) (h : j < n) : (placeRow n P k).getD j 0 = if j < k ∧ hasI j P = true then ((mem P j).length : Int) else 0 := by
  simp [placeRow, h]
theorem placeRow_zero (n : Nat) (P : List Int) : placeRow n P 0 = List.replicate n 0 := by
  apply List.ext_getElem?
  intro i
  simp [placeRow]
  by_cases h : i < n <;> simp [h]
theorem placeRow_no (n : Nat) (P : List Int) (k : Nat) (h : hasI k P = false) : placeRow n P (k + 1) = placeRow n P k := by
  unfold placeRow
  refine List.map_congr_left fun j _ => ?_
  by_cases hj : j = k
  · subst hj; simp [h]
  · have : j < k + 1 ↔ j < k := by omega
    simp [this]
theorem placeRow_yes (n : Nat) (P : List Int) (k : Nat) (hk : k < n) (h : hasI k P = true) : (placeRow n P k).set k ((mem P k).length : Int) = placeRow n P (k + 1) := by
  apply List.ext_getElem?
  intro i
  simp only [placeRow, List.getElem?_set, List.getElem?_map, List.length_map, List.length_range]
  by_cases hi : i < n
  · rw [List.getElem?_range hi]
    by_cases hki : k = i
    · subst hki; simp [hi, h]
    · have : i < k + 1 ↔ i < k := by omega
      simp [hki, this]
  · rw [List.getElem?_eq_none (by simpa using hi)]
    simp
    omega

/-- The clone, as far as it is turned. -/
def mix (P : List Int) (ks : List Int) (m : Nat) : List Int := newKids P ks m ++ ks.drop m
theorem mix_len (P : List Int) {ks : List Int} {m : Nat} (h : m ≤ ks.length) : (mix P ks m).length = ks.length := by
  unfold mix; rw [List.length_append, newKids_len P h, List.length_drop]; omega
theorem mix_get (P : List Int) {ks : List Int} {m : Nat} (h : m < ks.length) : (mix P ks m).getD m 0 = ks.getD m 0 := by
  have hl := newKids_len P (Nat.le_of_lt h)
  unfold mix
  rw [List.getD_eq_getElem?_getD, List.getElem?_append_right (by omega), hl, Nat.sub_self, List.getElem?_drop, Nat.add_zero, List.getD_eq_getElem?_getD]
theorem mix_set (P : List Int) {ks : List Int} {m : Nat} (h : m < ks.length) : (mix P ks m).set m (ahead P (ks.getD m 0)) = mix P ks (m + 1) := by
  have hl := newKids_len P (Nat.le_of_lt h)
  unfold mix
  rw [newKids_succ P h, List.set_append_right _ _ (by omega), hl, Nat.sub_self, List.drop_eq_getElem_cons h, List.set_cons_zero, List.append_assoc]
  rfl
theorem mix_zero (P : List Int) (ks : List Int) : mix P ks 0 = ks := by simp [mix, newKids]
theorem mix_all (P : List Int) (ks : List Int) {m : Nat} (h : ¬ m < ks.length) (h' : m ≤ ks.length) : mix P ks m = ks.map (ahead P) := by
  have : m = ks.length := by omega
  subst this
  unfold mix
  rw [newKids_all, List.drop_of_length_le (Nat.le_refl _), List.append_nil]

theorem MarkRel.keep {w0 w w' : World} {L : List Nd} {A : Option Addr} {cap n bi bl bm gi K : Nat} {u : List Bool} (h : MarkRel w0 w L A cap n bi bl bm gi u)
    (hb : Below K w w') (h0 : w0.heap.size ≤ K) (hgi : gi < K) (hbi : bi < K) (hbl : bl < K) (hbm : bm < K) : MarkRel w0 w' L A cap n bi bl bm gi u where
  old := h.old.trans (hb.mono h0)
  far := h.far
  row := h.row.below hb hgi
  len := h.len
  ci := (hb.cell (p := ⟨bi, 0, none⟩) hbi).trans h.ci
  cl := (hb.cell (p := ⟨bl, 0, none⟩) hbl).trans h.cl
  cm := (hb.cell (p := ⟨bm, 0, none⟩) hbm).trans h.cm
  ni := h.ni
  nl := h.nl
  nm := h.nm

structure RCutA (w w2 wr : World) (L : List Nd) (A : Option Addr) (cap n bi bl bm gi : Nat) (P : List Int) (v : Value) (k : Nat) (M : List Nd) : Prop where
  marks : MarkRel w wr L A cap n bi bl bm gi (setAll (List.replicate n false) P)
  place : Blk wr w2.heap.size 3 (arr (Value.int .i64) (placeRow n P k))
  out : OutRel (w2.heap.size + 1) wr v M
  dat : M.map Nd.dat = cutUpto L P k
  kl : ∀ nd, nd ∈ M → nd.kids.length ≤ 140737488355328

def RetDatE (D : List Nd) (c : Int) (w : World) (e : Ending) (w' : World) : Prop :=
  ∃ A cap M, e = .returned (.tuple #[.slice A M.length cap, .int .i64 c]) ∧ M.length ≤ cap ∧ NdsR w' A M ∧ M.map Nd.dat = D ∧ Below w.heap.size w w'

set_option maxRecDepth 100000 in
set_option maxHeartbeats 1000000 in
theorem cut_tree (A : Option Addr) (cap : Nat) (L : List Nd) (ht : TreeP L) (hcap : L.length ≤ cap) (i : Nat) (hi : i < L.length) (w : World) (h : NdsR w A L)
    (hkl : ∀ nd, nd ∈ L → nd.kids.length ≤ 2000) :
    Calls Try.prog 13 #[.slice A L.length cap, .int .i64 i] w (RetDatE (cutD L i) 0 w) := by
  have H := Lib.hid h; clear h
  have HKL := Lib.hid hkl; clear hkl
  have hl2 := ht.len.2
  have HT : Hid (isTree L = true) := (isTree_iff L).2 ht
  have HP := Lib.hid ht; clear ht
  have hmkB := fun W => run_mk (P := Try.prog) Value.bool false 42 4 1 (by kernel_rfl) info_bool rfl (i + 1) (by omega) (by omega) W
  have hmkI := fun W => run_mk (P := Try.prog) (Value.int .i64) 0 35 3 8 (by kernel_rfl) info_int rfl (i + 1) (by omega) (by omega) W
  have ec : ((i + 1 : Nat) : Int) = (i : Int) + 1 := by omega
  rw [ec] at hmkB hmkI
  clear ec
  obtain ⟨i0, hi0, _, _, _⟩ := info_parts info_node
  have hcut := fun W => run_cut_to (P := Try.prog) 22 37 i0 (by kernel_rfl) hi0 A L.length cap (i + 1) (by omega) W
  have ec : ((i + 1 : Nat) : Int) = (i : Int) + 1 := by omega
  rw [ec] at hcut
  clear ec hi0
  go_enter Try.func13, Try.ntmps13
  go_wp2_with fail
  refine (right_any A cap L _ (H.out.below (bel_alloc (bel_refl _) _))).mono ?_
  rintro e w1 ⟨rfl, hb1⟩
  rw [HT.out]
  have hcl : w1.cell? ⟨w.heap.size, 0, none⟩ = some (.slice A L.length cap) := (hb1.cell (p := ⟨w.heap.size, 0, none⟩) (by simp)).trans (by simp [go_sem])
  have hwl : w.heap.size < w1.heap.size := by have := hb1.size; simp at this; omega
  have HB1 := Lib.hid hb1; clear hb1
  have HM0 : Hid (MarkRel w (((w1.alloc (.cells (arr Value.bool (List.replicate (i + 1) false)) 4)).alloc (.cells #[.slice (some ⟨w1.heap.size, 0, none⟩) (i + 1) (i + 1)] 42)).alloc
      (.cells #[.func (.func 23) #[] #[.pointer (some ⟨w1.heap.size + 1, 0, none⟩), .pointer (some ⟨w.heap.size, 0, none⟩), .pointer (some ⟨w1.heap.size + 1 + 1, 0, none⟩)]] 48))
      L A cap (i + 1) (w1.heap.size + 1) w.heap.size (w1.heap.size + 1 + 1) w1.heap.size (List.replicate (i + 1) false)) := by
    have hb3 : Below w1.heap.size w1 (((w1.alloc (.cells (arr Value.bool (List.replicate (i + 1) false)) 4)).alloc (.cells #[.slice (some ⟨w1.heap.size, 0, none⟩) (i + 1) (i + 1)] 42)).alloc
      (.cells #[.func (.func 23) #[] #[.pointer (some ⟨w1.heap.size + 1, 0, none⟩), .pointer (some ⟨w.heap.size, 0, none⟩), .pointer (some ⟨w1.heap.size + 1 + 1, 0, none⟩)]] 48)) := bel_alloc (bel_alloc (bel_alloc (bel_refl _) _) _) _
    refine ⟨bel_trans (bel_trans (bel_alloc (bel_refl _) _) HB1.out) hb3, by omega, ((Blk.new _ _ _).alloc _).alloc _, by simp, ?_, (hb3.cell (p := ⟨w.heap.size, 0, none⟩) hwl).trans hcl, ?_, by omega, by omega, by omega⟩
    · have h1 := (Blk.new (w1.alloc (.cells (arr Value.bool (List.replicate (i + 1) false)) 4)) 42 #[.slice (some ⟨w1.heap.size, 0, none⟩) (i + 1) (i + 1)]).alloc (.cells #[.func (.func 23) #[] #[.pointer (some ⟨w1.heap.size + 1, 0, none⟩), .pointer (some ⟨w.heap.size, 0, none⟩), .pointer (some ⟨w1.heap.size + 1 + 1, 0, none⟩)]] 48)
      rw [World.size_alloc] at h1
      rw [h1.cell]; rfl
    · have h1 := Blk.new ((w1.alloc (.cells (arr Value.bool (List.replicate (i + 1) false)) 4)).alloc (.cells #[.slice (some ⟨w1.heap.size, 0, none⟩) (i + 1) (i + 1)] 42)) 48 #[.func (.func 23) #[] #[.pointer (some ⟨w1.heap.size + 1, 0, none⟩), .pointer (some ⟨w.heap.size, 0, none⟩), .pointer (some ⟨w1.heap.size + 1 + 1, 0, none⟩)]]
      rw [World.size_alloc, World.size_alloc] at h1
      rw [h1.cell]; rfl
  go_wp2_with fail
  clear hcl
  refine (mark_any w A cap (i + 1) (w1.heap.size + 1) w.heap.size (w1.heap.size + 1 + 1) w1.heap.size L H.out HP.out.kids hl2 (by omega) i (by omega) _ _ HM0.out).mono ?_
  rintro e w2 ⟨rfl, hm2, hg2⟩
  clear HM0
  obtain ⟨P, hPe⟩ : ∃ P, P = pt L i := ⟨_, rfl⟩
  rw [← hPe] at hm2
  have HM2 := Lib.hid hm2; clear hm2
  have hs2 : w1.heap.size + 1 + 1 < w2.heap.size := by have := hg2.size; simp at this; omega
  clear hg2
  have hPn : Hid P.Nodup := by show P.Nodup; rw [hPe]; exact pt_nodup HP.out i hi
  have hPr : Hid (∀ p, p ∈ P → 0 ≤ p ∧ p ≤ i) := by show ∀ p, p ∈ P → _; rw [hPe]; exact pt_range HP.out.kids i hi
  have hPc : Hid (∀ x : Int, x ∈ P → ∀ q, q ∈ kidsOf L x.toNat → q ∈ P) := by show ∀ x : Int, x ∈ P → _; rw [hPe]; exact pt_closed HP.out.kids i hi
  have HPE := Lib.hid hPe; clear hPe
  have cl2 := HM2.out.cl
  have hws : w.heap.size < w2.heap.size := by omega
  go_wp2_with fail
  clear cl2
  go_loopw [8, 43] (fun v j wr => ∃ k : Nat, k ≤ i + 1 ∧ j = .int .i64 k ∧ ∃ M, RCutA w w2 wr L A cap (i + 1) (w1.heap.size + 1) w.heap.size (w1.heap.size + 1 + 1) w1.heap.size P v k M) (fun _ j _ => i + 1 - (intOf j).toNat)
  case atStart =>
    refine ⟨0, Nat.zero_le _, rfl, [], ⟨HM2.out.keep (K := w2.heap.size) (bel_alloc (bel_refl _) _) (by omega) (by omega) (by omega) (by omega) (by omega), ?_, ⟨own_nil _ _ _ _, by simp⟩, rfl, by simp⟩⟩
    rw [placeRow_zero]
    exact Blk.new _ _ _
  case round =>
    obtain ⟨k, hk, rfl, M, hrel⟩ := hrel
    have HR := Lib.hid hrel; clear hrel
    have hML : M.length = (mem P k).length := by
      have h1 := congrArg List.length HR.out.dat
      rw [List.length_map] at h1
      rw [h1, cutUpto, List.length_map]
    have hMk : M.length ≤ k := by rw [hML]; exact mem_len P k
    have HML := Lib.hid hML; clear hML
    obtain ⟨Av, cv, hv, hcv, _, _⟩ := own_read HR.out.out.own (by rw [flatCells_len]; exact Nat.le_refl _)
    subst hv
    have hsr : w2.heap.size < wr.heap.size := HR.out.place.lt
    have hsa : w1.heap.size < wr.heap.size := by omega
    have hsb : w1.heap.size + 1 < wr.heap.size := by omega
    by_cases hlt : k < i + 1
    · obtain ⟨b, off, kd, tx, ka, kc, ks, pl, hA, hnd, hb, c0, c1, c2, c3, hkids, hkl, hkc⟩ := H.out.node HR.out.marks.old (show k < L.length by omega)
      subst hA
      have hks : ks.length ≤ 2000 := by
        have := HKL.out (L.getD k default) (getD_mem (by omega))
        rw [← hnd] at this
        exact this
      have HN := Lib.hid hnd; clear hnd
      have HK := Lib.hid (hkids.below HR.out.marks.old); clear hkids
      have ci := HR.out.marks.ci
      have hin : wr.cell? ⟨w1.heap.size, k, none⟩ = some (.bool (hasI k P)) := by
        rw [HR.out.marks.row.at_ false (by rw [HR.out.marks.len]; exact hlt), setAll_get (fun p hp => by have := hPr.out p hp; rw [List.length_replicate]; omega), getD_replicate_false, Bool.false_or]
      cases hmem : hasI k P
      case false =>
        rw [hmem] at hin
        have HM := Lib.hid hmem; clear hmem
        go_wp2
        go_roundw
        case rel =>
          refine ⟨k + 1, by omega, by go_num, M, HR.out.marks.keep (K := w2.heap.size) ((Below.refl _ _).alloc (by omega) _) (by omega) (by omega) (by omega) (by omega) (by omega), ?_, HR.out.out.below (bel_alloc (bel_refl _) _), by rw [HR.out.dat, cutUpto_no L HM.out], HR.out.kl⟩
          rw [placeRow_no _ _ _ HM.out]
          exact HR.out.place.alloc _
        case measure => simp [intOf]; omega
      case true =>
        rw [hmem] at hin
        have HM := Lib.hid hmem; clear hmem
        go_wp2_with fail
        refine (clone_any ka kc ks _ (by omega) (HK.out.below (bel_alloc (bel_refl _) _))).mono ?_
        rintro e w3 ⟨A1, cq, rfl, hcq1, ho1, hb1⟩
        rw [World.size_alloc] at ho1 hb1
        have HO1 := Lib.hid ho1; clear ho1
        have HB3 := Lib.hid hb1; clear hb1
        clear c0 c1 c2 c3 ci hin
        have hnode : Hid (Blk w3 wr.heap.size 37 #[.int .i64 kd, .string tx, .slice ka ks.length kc, .int .i64 pl]) := (Blk.new wr 37 _).below HB3.out (by omega)
        have hold : Hid (Below wr.heap.size wr w3) := (bel_alloc (bel_refl wr) _).trans (HB3.out.mono (by omega))
        clear HB3
        go_wp2_with fail
        go_loopw [58] (fun j wj => ∃ m : Nat, m ≤ ks.length ∧ j = .int .i64 m ∧ Below wr.heap.size wr wj ∧ Blk wj wr.heap.size 37 #[.int .i64 kd, .string tx, .slice ka ks.length kc, .int .i64 pl] ∧ wj.ownsRow (wr.heap.size + 1) 3 1 (.slice A1 ks.length cq) ks.length (ints .i64 (mix P ks m))) (fun j _ => ks.length - (intOf j).toNat)
        case atStart => exact ⟨0, Nat.zero_le _, rfl, hold.out, hnode.out, by rw [mix_zero]; exact HO1.out⟩
        case round =>
          obtain ⟨w9, hw⟩ : ∃ x, x = wr := ⟨_, rfl⟩
          subst hw
          obtain ⟨m, hm, rfl, hb9, hn9, ho9⟩ := hrel
          have HB9 := Lib.hid hb9; clear hb9
          have HN9 := Lib.hid hn9; clear hn9
          have HO9 := Lib.hid ho9; clear ho9
          clear HO1 hold hnode
          have hs9 : wr.heap.size < w9.heap.size := HN9.out.lt
          by_cases hmt : m < ks.length
          · obtain ⟨g1, cp1, hA1, hg1, hg2, _, _⟩ := own_form HO9.out (by omega)
            injection hA1 with hA1 _ hcc
            subst hA1 hcc
            obtain ⟨hcj, hfj, _, _⟩ := own_at HO9.out hmt
            rw [ints_get _ _ (by rw [mix_len P hm]; exact hmt), mix_get P hmt] at hcj
            obtain ⟨q, hq⟩ : ∃ q : Int, q = ks.getD m 0 := ⟨_, rfl⟩
            rw [← hq] at hcj
            have hqk : q ∈ kidsOf L k := by
              unfold kidsOf
              rw [← HN.out, hq, List.getD_eq_getElem?_getD, List.getElem?_eq_getElem hmt]
              exact List.getElem_mem hmt
            have hqr := HP.out.kids k (by omega) q hqk
            have hqP : q ∈ P := hPc.out k ((hasI_iff _ _).1 HM.out) q (by rw [Int.toNat_natCast]; exact hqk)
            have HQ := Lib.hid hq; clear hq
            obtain ⟨q0, q1⟩ := hqr
            have hcq : w9.cell? ⟨w2.heap.size, q.toNat, none⟩ = some (.int .i64 (ahead P q)) := by
              have hpl := (HR.out.place.below HB9.out hsr).at_ 0 (k := q.toNat) (by rw [placeRow_len]; omega)
              rw [hpl, placeRow_get _ _ _ _ (by omega), if_pos ⟨by omega, by rw [Int.toNat_of_nonneg q0]; exact (hasI_iff _ _).2 hqP⟩, ← ahead_mem hPn.out (fun p hp => (hPr.out p hp).1), Int.toNat_of_nonneg q0]
            clear hqk hqP
            go_wp2
            go_roundw
            case rel =>
              refine ⟨m + 1, by omega, by go_num, HB9.out.setCell (by simp; omega) _, HN9.out.far (by simp; omega) _, ?_⟩
              rw [← mix_set P hmt, ← ints_set, ← HQ.out]
              exact own_put HO9.out _ _
            case measure => simp [intOf]; omega
          · have hmix : Hid (mix P ks m = ks.map (ahead P)) := mix_all P ks hmt hm
            have n0 : w9.cell? ⟨wr.heap.size, 0, none⟩ = some (.int .i64 kd) := by rw [HN9.out.cell]; rfl
            have n1 : w9.cell? ⟨wr.heap.size, 0 + 1, none⟩ = some (.string tx) := by rw [HN9.out.cell]; rfl
            have n2 : w9.cell? ⟨wr.heap.size, 0 + 2, none⟩ = some (.slice ka ks.length kc) := by rw [HN9.out.cell]; rfl
            have n3 : w9.cell? ⟨wr.heap.size, 0 + 3, none⟩ = some (.int .i64 pl) := by rw [HN9.out.cell]; rfl
            have f2 := HN9.out.frozen 2
            have hp9 := HR.out.place.below HB9.out hsr
            have p0 := hp9.at_ 0 (k := k) (by rw [placeRow_len]; exact hlt)
            have pf := hp9.frozen k
            have HP9 := Lib.hid hp9; clear hp9
            have hne : ¬ wr.heap.size = w2.heap.size := by omega
            have hne' : ¬ w2.heap.size = wr.heap.size := by omega
            have HO : Hid (w9.ownsRow (wr.heap.size + 1) 3 1 (.slice A1 ks.length cq) ks.length (ints .i64 (ks.map (ahead P)))) := by
              have := HO9.out
              rw [hmix.out] at this
              exact this
            have hWa : Hid (Below wr.heap.size wr (w9.setCell ⟨wr.heap.size, 2, none⟩ (.slice A1 ks.length cq))) := Below.setCell (p := ⟨wr.heap.size, 2, none⟩) HB9.out (Nat.le_refl _) _
            have hWb : Hid (Below w2.heap.size wr ((w9.setCell ⟨wr.heap.size, 2, none⟩ (.slice A1 ks.length cq)).setCell ⟨w2.heap.size, k, none⟩ (.int .i64 M.length))) := Below.setCell (p := ⟨w2.heap.size, k, none⟩) (hWa.out.mono (Nat.le_of_lt hsr)) (Nat.le_refl _) _
            have hOb : Hid (OutRel (w2.heap.size + 1) ((w9.setCell ⟨wr.heap.size, 2, none⟩ (.slice A1 ks.length cq)).setCell ⟨w2.heap.size, k, none⟩ (.int .i64 M.length)) (.slice Av M.length cv) M) :=
              (HR.out.out.below hWa.out).under (Nat.lt_succ_self _) _
            have hPb : Hid (Blk ((w9.setCell ⟨wr.heap.size, 2, none⟩ (.slice A1 ks.length cq)).setCell ⟨w2.heap.size, k, none⟩ (.int .i64 M.length)) w2.heap.size 3 (arr (Value.int .i64) (placeRow (i + 1) P (k + 1)))) := by
              have := (HP9.out.far (p := ⟨wr.heap.size, 2, none⟩) (by simp; omega) (.slice A1 ks.length cq)).set_ k (M.length : Int)
              rw [HML.out, placeRow_yes _ _ _ hlt HM.out, ← HML.out] at this
              exact this
            have hKb : Hid (((w9.setCell ⟨wr.heap.size, 2, none⟩ (.slice A1 ks.length cq)).setCell ⟨w2.heap.size, k, none⟩ (.int .i64 M.length)).ownsRow (w2.heap.size + 1) 3 1 (.slice A1 ks.length cq) ks.length (ints .i64 (ks.map (ahead P)))) :=
              own_mono (own_under (own_under HO.out (p := ⟨wr.heap.size, 2, none⟩) (by simp) _) (p := ⟨w2.heap.size, k, none⟩) (by simp; omega) _) (by omega)
            have hNb : w2.heap.size < ((w9.setCell ⟨wr.heap.size, 2, none⟩ (.slice A1 ks.length cq)).setCell ⟨w2.heap.size, k, none⟩ (.int .i64 M.length)).heap.size := by have := hWb.out.size; omega
            go_wp2_with (at_builtin; refine wpList_app _ rfl _ _ 22 rfl (w2.heap.size + 1) 37 (.agg #[.int .i64 0, .string ByteArray.empty, .slice none 0 0, .int .i64 0]) 4 56 (by kernel_rfl) info_node rfl (by decide) _ M.length (M.flatMap Nd.cells) rfl _ 1 1 [.int .i64 kd, .string tx, .slice A1 ks.length cq, .int .i64 pl] rfl rfl (nd_one _ _ _ _ _ _) ?own ?rd ?c1 ?c2 ?c3 ?_)
            case own => exact own_below hOb.out.own (bel_alloc (bel_refl _) _)
            case rd => exact Rd.newAt _ [.int .i64 kd, .string tx, .slice A1 ks.length cq, .int .i64 pl] 37 _ 4 (by simp) (Nat.le_refl _)
            case c1 => unfold maxLen; omega
            case c2 => omega
            case c3 => rw [World.size_alloc]; omega
            intro v' w5 hown hgr hbel
            have hlk : (ks.map (ahead P)).length = ks.length := List.length_map _
            have hcells : (⟨kd, tx, A1, cq, ks.map (ahead P), pl⟩ : Nd).cells = [.int .i64 kd, .string tx, .slice A1 ks.length cq, .int .i64 pl] := by simp only [Nd.cells, hlk]
            have R : Hid (RCutA w w2 w5 L (some ⟨b, off, none⟩) cap (i + 1) (w1.heap.size + 1) w.heap.size (w1.heap.size + 1 + 1) w1.heap.size P v' (k + 1) (M ++ [⟨kd, tx, A1, cq, ks.map (ahead P), pl⟩])) := by
              rw [← hcells] at hown
              have h5 : Below w2.heap.size wr w5 := (hWb.out.alloc (by omega) _).trans (hbel.mono (by omega))
              refine ⟨HR.out.marks.keep (K := w2.heap.size) h5 (by omega) (by omega) (by omega) (by omega) (by omega), ?_, OutRel.more (hOb.out.below (bel_alloc (bel_refl _) _)) (own_below ?_ (bel_alloc (bel_refl _) _)) hown hgr, ?_, ?_⟩
              · exact (hPb.out.alloc _).below hbel (by omega)
              · have := hKb.out
                show World.ownsRow _ _ _ _ (.slice A1 (ks.map (ahead P)).length cq) (ks.map (ahead P)).length _
                rw [hlk]
                exact this
              · rw [List.map_append, HR.out.dat, cutUpto_yes L HM.out, ← HN.out]
                rfl
              · intro nd hnd
                rcases List.mem_append.1 hnd with hnd | hnd
                · exact HR.out.kl nd hnd
                · rw [List.mem_singleton.1 hnd]
                  show (ks.map (ahead P)).length ≤ _
                  rw [hlk]; omega
            clear hown hgr hbel hcells hlk hNb n0 n1 n2 n3 f2 p0 pf
            go_wp2
            go_roundw
            case rel => exact ⟨k + 1, by omega, by go_num, _, R.out⟩
            case measure => simp [intOf]; omega
    · have hkk : k = i + 1 := by omega
      have HKK := Lib.hid hkk; clear hkk
      obtain ⟨A', c', hv, hc, hn⟩ := HR.out.out.nds (by omega) HR.out.kl
      injection hv with hv1 hv2 hv3
      subst hv1 hv3
      go_wp2
      go_ret2
      refine ⟨Av, cv, M, rfl, hc, hn, ?_, HR.out.marks.old⟩
      rw [HR.out.dat, HKK.out, cutD, ← HPE.out]
end Go.Proofs.Ytlijfkallnomnaa
