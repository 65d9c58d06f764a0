/-
  The reference's Right.
-/
import Derived.Test.YtlijfkallnomnaaNodeOwn
import Derived.Test.YtlijfkallnomnaaKids
namespace Go.Proofs.Ytlijfkallnomnaa
open Go.RowKit

def refHeadBad (nd : Nd) : Bool :=
  decide (nd.kind < 0) || decide (32 < nd.kind) || decide (nd.at_ < 0) || decide (4000 < nd.at_) || !kidsOk nd.kind nd.kids.length

def refKids (i : Nat) : List Int → List Int → Option (List Int)
  | [], c => some c
  | k :: ks, c => if decide (k < 0) || decide ((i : Int) ≤ k) then none else refKids i ks (c.set k.toNat (c.getD k.toNat 0 + 1))

def refNode (i : Nat) (nd : Nd) (c : List Int) : Option (List Int) := if refHeadBad nd then none else refKids i nd.kids c

def refRun : List Nd → Nat → List Int → Option (List Int)
  | [], _, c => some c
  | nd :: r, i, c => (refNode i nd c).bind (refRun r (i + 1))

/-- Is one of the counts not 1, from place k on? -/
def cntBad (n : Nat) : Nat → List Int → Bool
  | _, [] => false
  | k, x :: r => (decide (k + 1 < n) && (x != 1)) || cntBad n (k + 1) r

def refEnd (n : Nat) : Option (List Int) → Bool
  | none => false
  | some c => !cntBad n 0 c

def refIsTree (L : List Nd) : Bool :=
  if L.length < 1 ∨ 2000 < L.length then false else refEnd L.length (refRun L 0 (List.replicate L.length 0))

theorem refKids_drop {i : Nat} {ks : List Int} {c : List Int} {j : Nat} (h : j < ks.length) :
    refKids i (ks.drop j) c = if decide (ks.getD j 0 < 0) || decide ((i : Int) ≤ ks.getD j 0) then none else refKids i (ks.drop (j + 1)) (c.set (ks.getD j 0).toNat (c.getD (ks.getD j 0).toNat 0 + 1)) := by
  rw [List.drop_eq_getElem_cons h, List.getD_eq_getElem?_getD, List.getElem?_eq_getElem h]
  rfl
theorem refRun_drop {L : List Nd} {k : Nat} {c : List Int} (h : k < L.length) :
    refRun (L.drop k) k c = (refNode k (L.getD k default) c).bind (refRun (L.drop (k + 1)) (k + 1)) := by
  rw [List.drop_eq_getElem_cons h, List.getD_eq_getElem?_getD, List.getElem?_eq_getElem h]
  rfl
theorem cntBad_drop {n k : Nat} {c : List Int} (h : k < c.length) : cntBad n k (c.drop k) = ((decide (k + 1 < n) && (c.getD k 0 != 1)) || cntBad n (k + 1) (c.drop (k + 1))) := by
  rw [List.drop_eq_getElem_cons h, List.getD_eq_getElem?_getD, List.getElem?_eq_getElem h]
  rfl

structure RefRel (w wr : World) (L : List Nd) (g cp k : Nat) (c : List Int) : Prop where
  le : k ≤ L.length
  old : Below w.heap.size w wr
  own : wr.ownsRow w.heap.size 3 1 (.slice (some ⟨g, 0, none⟩) L.length cp) L.length (ints .i64 c)
  len : c.length = L.length
  bnd : ∀ x, x ∈ c → 0 ≤ x ∧ x ≤ k * 140737488355328
  rest : refRun L 0 (List.replicate L.length 0) = refRun (L.drop k) k c
structure RefIn (w wj : World) (L : List Nd) (ks : List Int) (g cp k : Nat) (c : List Int) (m : Nat) (c' : List Int) : Prop where
  le : m ≤ ks.length
  old : Below w.heap.size w wj
  own : wj.ownsRow w.heap.size 3 1 (.slice (some ⟨g, 0, none⟩) L.length cp) L.length (ints .i64 c')
  len : c'.length = L.length
  bnd : ∀ x, x ∈ c' → 0 ≤ x ∧ x ≤ k * 140737488355328 + m
  rest : refKids k ks c = refKids k (ks.drop m) c'

theorem refIsTree_of {L : List Nd} (h1 : 1 ≤ L.length) (h2 : L.length ≤ 2000) {x : Option (List Int)} (h : refRun L 0 (List.replicate L.length 0) = x) : refIsTree L = refEnd L.length x := by
  unfold refIsTree
  rw [if_neg (by omega), h]
theorem refHeadBad_false {nd : Nd} (h : refHeadBad nd = false) : 0 ≤ nd.kind ∧ nd.kind ≤ 32 ∧ 0 ≤ nd.at_ ∧ nd.at_ ≤ 4000 ∧ kidsOk nd.kind nd.kids.length = true := by
  simp only [refHeadBad, Bool.or_eq_false_iff, decide_eq_false_iff_not, Bool.not_eq_false'] at h
  obtain ⟨⟨⟨⟨a, b⟩, c⟩, d⟩, e⟩ := h
  exact ⟨by omega, by omega, by omega, by omega, e⟩
theorem refHeadBad_true {nd : Nd} (h : refHeadBad nd = true) : (nd.kind < 0 ∨ (0 ≤ nd.kind ∧ 32 < nd.kind) ∨ (0 ≤ nd.kind ∧ nd.kind ≤ 32 ∧ nd.at_ < 0) ∨ (0 ≤ nd.kind ∧ nd.kind ≤ 32 ∧ 0 ≤ nd.at_ ∧ 4000 < nd.at_)) ∨
    (0 ≤ nd.kind ∧ nd.kind ≤ 32 ∧ 0 ≤ nd.at_ ∧ nd.at_ ≤ 4000 ∧ kidsOk nd.kind nd.kids.length = false) := by
  simp only [refHeadBad, Bool.or_eq_true, decide_eq_true_eq, Bool.not_eq_true'] at h
  rcases h with h | h
  · left; omega
  · by_cases hx : nd.kind < 0 ∨ 32 < nd.kind ∨ nd.at_ < 0 ∨ 4000 < nd.at_
    · left; omega
    · exact .inr ⟨by omega, by omega, by omega, by omega, h⟩

set_option maxRecDepth 100000 in
set_option maxHeartbeats 1000000 in
theorem refRight_loop (A : Option Addr) (cap : Nat) (L : List Nd) (w : World) (h : NdsR w A L) (h1 : 1 ≤ L.length) (h2 : L.length ≤ 2000) :
    Calls Try.prog 9 #[.slice A L.length cap] w (RetBB (refIsTree L) w) := by
  have H := Lib.hid h; clear h
  have g1 : ¬ ((L.length : Int) < 1) := by omega
  have g2 : ¬ ((2000 : Int) < L.length) := by omega
  go_enter Try.func9, Try.ntmps9
  go_wp2
  go_loopw [3, 21] (fun v i wr => ∃ k : Nat, k ≤ L.length ∧ i = .int .i64 k ∧ Below w.heap.size w wr ∧ wr.ownsRow w.heap.size 3 1 v k (ints .i64 (List.replicate k 0))) (fun _ i _ => L.length - (intOf i).toNat)
  case atStart => exact ⟨0, Nat.zero_le _, rfl, bel_alloc (bel_refl _) _, own_empty _ _ _ _ (Nat.le_refl _)⟩
  case round =>
    obtain ⟨k, hk, rfl, hb, ho⟩ := hrel
    have HB := Lib.hid hb; clear hb
    have HO := Lib.hid ho; clear ho
    by_cases hlt : k < L.length
    · go_wp2_with (at_builtin; refine wpList_app _ rfl _ _ 35 rfl w.heap.size 3 (.int .i64 0) 1 8 (by kernel_rfl) info_int rfl (by decide) _ k (ints .i64 (List.replicate k 0)) rfl _ 1 1 (ints .i64 [0]) rfl rfl (ints_one _ _) ?own ?rd ?c1 ?c2 ?c3 ?_)
      case own => exact own_below HO.out (bel_alloc (bel_refl _) _)
      case rd => exact (RdI.newAt _ .i64 [0] 3 _ rfl).src
      case c1 => unfold maxLen; omega
      case c2 => omega
      case c3 => have := HB.out.size; simp; omega
      intro v' w2 hown hgr hbel
      have R : Hid (Below w.heap.size w w2 ∧ w2.ownsRow w.heap.size 3 1 v' (k + 1) (ints .i64 (List.replicate (k + 1) 0))) :=
        ⟨(bel_alloc HB.out _).trans hbel, by rw [ints_app, ← List.replicate_succ'] at hown; exact hown⟩
      clear hown hgr hbel
      go_wp2
      go_roundw
      case rel => exact ⟨k + 1, by omega, by go_num, R.out.1, R.out.2⟩
      case measure => simp [intOf]; omega
    · have hkl : k = L.length := by omega
      subst hkl
      obtain ⟨g, cp, hv, hg1, hg2, hc1, hc2⟩ := own_form HO.out h1
      subst hv
      have HS : Hid (RefRel w wr L g cp 0 (List.replicate L.length 0)) := ⟨Nat.zero_le _, HB.out, HO.out, by simp, by simp, rfl⟩
      clear HB HO hg2
      go_wp2
      go_loopw [29] (fun i wr => ∃ k : Nat, i = .int .i64 k ∧ ∃ c, RefRel w wr L g cp k c) (fun i _ => L.length - (intOf i).toNat)
      case atStart => exact ⟨0, rfl, _, HS.out⟩
      case round =>
        obtain ⟨k, rfl, c, hrel⟩ := hrel
        have HR := Lib.hid hrel; clear hrel
        clear HS
        by_cases hlt : k < L.length
        · obtain ⟨b, off, kd, tx, ka, kc, ks, pl, rfl, hnd, hb, c0, c1, c2, c3, hkids, hkl, hkc⟩ := H.out.node HR.out.old hlt
          have Hnd := Lib.hid hnd; clear hnd
          have HK := Lib.hid hkids; clear hkids
          cases hbad : refHeadBad ⟨kd, tx, ka, kc, ks, pl⟩
          case true =>
            have HB := Lib.hid hbad
            have HE : Hid (refIsTree L = false) := by
              show refIsTree L = false
              rw [refIsTree_of h1 h2 HR.out.rest, refRun_drop hlt, ← Hnd.out, refNode, if_pos HB.out]
              rfl
            have hbs := refHeadBad_true hbad
            dsimp only at hbs
            clear hbad
            rcases hbs with (b0 | ⟨b0, b1⟩ | ⟨b0, b1, b2⟩ | ⟨b0, b1, b2, b3⟩) | ⟨b0, b1, b2, b3, b4⟩
            iterate 4
              · go_wp2
                go_ret
                exact ⟨ret_bool HE.out.symm, bel_alloc HR.out.old _⟩
            go_wp2_with (go_at_call 19; (with_reducible refine (kids_any kd ks.length _).mono ?_); rintro e w2 ⟨rfl, hb2⟩; rw [b4])
            go_ret
            exact ⟨ret_bool HE.out.symm, bel_trans (bel_alloc HR.out.old _) hb2⟩
          case false =>
            have HB := Lib.hid hbad
            have hbs := refHeadBad_false hbad
            dsimp only at hbs
            clear hbad
            obtain ⟨b0, b1, b2, b3, b4⟩ := hbs
            have B4 := Lib.hid b4; clear b4
            go_wp2_with (go_at_call 19; (with_reducible refine (kids_any kd ks.length _).mono ?_); rintro e w2 ⟨rfl, hb2⟩; rw [B4.out]; have hcx : w2.cell? ⟨wr.heap.size, 2, none⟩ = some (.slice ka ks.length kc) := (hb2.cell (p := ⟨wr.heap.size, 2, none⟩) (by simp)).trans (by simp [go_sem]); have HB2 := Lib.hid hb2; clear hb2)
            have HI : Hid (RefIn w w2 L ks g cp k c 0 c) :=
              ⟨Nat.zero_le _, bel_trans (bel_alloc HR.out.old _) HB2.out, own_below (own_below HR.out.own (bel_alloc (bel_refl _) _)) HB2.out, HR.out.len, by simpa using HR.out.bnd, rfl⟩
            go_loopw [64] (fun j wj => ∃ m : Nat, j = .int .i64 m ∧ ∃ c', RefIn w wj L ks g cp k c m c') (fun j _ => ks.length - (intOf j).toNat)
            case atStart => exact ⟨0, rfl, c, HI.out⟩
            case round =>
              obtain ⟨m, rfl, c', hin⟩ := hrel
              have HJ := Lib.hid hin; clear hin
              clear c0 c1 c2 c3 b0 b1 b2 b3 HI hb hcx
              by_cases hm : m < ks.length
              · obtain ⟨b', off', rfl, hb', hcell⟩ := (HK.out.below HJ.out.old).at_ hm
                obtain ⟨q, hq⟩ : ∃ q, q = ks.getD m 0 := ⟨_, rfl⟩
                rw [← hq] at hcell
                have Hq := Lib.hid hq; clear hq
                by_cases hq0 : q < 0 ∨ (k : Int) ≤ q
                · have HE : Hid (refIsTree L = false) := by
                    show refIsTree L = false
                    rw [refIsTree_of h1 h2 HR.out.rest, refRun_drop hlt, ← Hnd.out, refNode, if_neg (by rw [HB.out]; simp)]
                    show refEnd _ (Option.bind (refKids k ks c) _) = false
                    rw [HJ.out.rest, refKids_drop hm, ← Hq.out, if_pos (by simpa using hq0)]
                    rfl
                  have hqs : q < 0 ∨ (0 ≤ q ∧ (k : Int) ≤ q) := by omega
                  clear hq0
                  rcases hqs with q0 | ⟨q0, q1⟩
                  all_goals
                    go_wp2
                    go_ret
                    exact ⟨ret_bool HE.out.symm, HJ.out.old⟩
                · have q0 : 0 ≤ q := by omega
                  have q1 : q < k := by omega
                  have HQ : Hid (¬ ((decide (q < 0) || decide ((k : Int) ≤ q)) = true)) := by show ¬ _; simpa using hq0
                  clear hq0
                  obtain ⟨hu, hfz, hgb, hgl⟩ := own_at HJ.out.own (k := q.toNat) (by omega)
                  have hql : q.toNat < c'.length := by rw [HJ.out.len]; omega
                  rw [ints_get _ _ hql] at hu
                  have hbd := HJ.out.bnd (c'.getD q.toNat 0) (by rw [List.getD_eq_getElem?_getD, List.getElem?_eq_getElem hql]; exact List.getElem_mem hql)
                  obtain ⟨y, hy⟩ : ∃ y, y = c'.getD q.toNat 0 := ⟨_, rfl⟩
                  rw [← hy] at hu hbd
                  have Hy := Lib.hid hy; clear hy hql
                  obtain ⟨hy0, hy1⟩ := hbd
                  go_wp2
                  go_roundw
                  case rel =>
                    refine ⟨m + 1, by go_num, c'.set q.toNat (y + 1), hm, HJ.out.old.setCell hgb _, ?_, by simp [HJ.out.len], ?_, ?_⟩
                    · rw [← ints_set]; exact own_put HJ.out.own _ _
                    · intro x hx
                      rcases List.mem_or_eq_of_mem_set hx with hx | rfl
                      · have := HJ.out.bnd x hx; omega
                      · omega
                    · rw [HJ.out.rest, refKids_drop hm, ← Hq.out, if_neg HQ.out, ← Hy.out]
                  case measure => simp [intOf]; omega
              · go_wp2
                go_roundw
                case rel =>
                  refine ⟨k + 1, by go_num, c', hlt, HJ.out.old, HJ.out.own, HJ.out.len, ?_, ?_⟩
                  · intro x hx
                    have := HJ.out.bnd x hx
                    have := HJ.out.le
                    omega
                  · rw [HR.out.rest, refRun_drop hlt, ← Hnd.out, refNode, if_neg (by rw [HB.out]; simp)]
                    show Option.bind (refKids k ks c) _ = _
                    rw [HJ.out.rest, List.drop_of_length_le (by omega)]
                    rfl
                case measure => simp [intOf]; omega
        · have HE : Hid (refIsTree L = !cntBad L.length 0 c) := by
            show refIsTree L = _
            rw [refIsTree_of h1 h2 HR.out.rest, List.drop_of_length_le (by omega)]
            rfl
          go_wp2
          go_loop [87] (fun i => ∃ m : Nat, m ≤ L.length ∧ i = .int .i64 m ∧ cntBad L.length 0 c = cntBad L.length m (c.drop m)) (fun i => L.length - (intOf i).toNat)
          case atStart => exact ⟨0, Nat.zero_le _, rfl, rfl⟩
          case round =>
            obtain ⟨m, hm, rfl, hx⟩ := hrel
            have HX := Lib.hid hx; clear hx
            by_cases hmt : m < L.length
            · obtain ⟨hu, hfz, hgb, hgl⟩ := own_at HR.out.own (k := m) hmt
              have hml : m < c.length := by rw [HR.out.len]; omega
              rw [ints_get _ _ hml] at hu
              have HD : Hid (cntBad L.length 0 c = ((decide (m + 1 < L.length) && (c.getD m 0 != 1)) || cntBad L.length (m + 1) (c.drop (m + 1)))) := by
                show cntBad L.length 0 c = _
                rw [HX.out, cntBad_drop hml]
              obtain ⟨y, hy⟩ : ∃ y, y = c.getD m 0 := ⟨_, rfl⟩
              rw [← hy] at hu
              rw [← hy] at HD
              clear hy hml
              by_cases t1 : m + 1 < L.length
              · cases t2 : (y != 1)
                · have HD2 : Hid (cntBad L.length 0 c = cntBad L.length (m + 1) (c.drop (m + 1))) := by show cntBad L.length 0 c = _; rw [HD.out, t2]; simp
                  have t1' : (m : Int) + 1 < L.length := by omega
                  go_wp2
                  go_round
                  case rel => exact ⟨m + 1, by omega, by go_num, HD2.out⟩
                  case measure => simp [intOf]; omega
                · have HD2 : Hid (cntBad L.length 0 c = true) := by show cntBad L.length 0 c = _; rw [HD.out, t2]; simp [t1]
                  have t1' : (m : Int) + 1 < L.length := by omega
                  go_wp2
                  go_ret
                  exact ⟨ret_bool (by rw [HE.out, HD2.out]; rfl), HR.out.old⟩
              · have HD2 : Hid (cntBad L.length 0 c = cntBad L.length (m + 1) (c.drop (m + 1))) := by show cntBad L.length 0 c = _; rw [HD.out]; simp [t1]
                have t1' : ¬ ((m : Int) + 1 < L.length) := by omega
                go_wp2
                go_round
                case rel => exact ⟨m + 1, by omega, by go_num, HD2.out⟩
                case measure => simp [intOf]; omega
            · have HD2 : Hid (cntBad L.length 0 c = false) := by show cntBad L.length 0 c = _; rw [HX.out, List.drop_of_length_le (by have := HR.out.len; omega)]; rfl
              go_wp2
              go_ret
              exact ⟨ret_bool (by rw [HE.out, HD2.out]; rfl), HR.out.old⟩
set_option maxRecDepth 100000 in
theorem refRight_any (A : Option Addr) (cap : Nat) (L : List Nd) (w : World) (h : NdsR w A L) :
    Calls Try.prog 9 #[.slice A L.length cap] w (RetBB (refIsTree L) w) := by
  have hl := h.len
  by_cases h1 : 1 ≤ L.length
  · by_cases h2 : L.length ≤ 2000
    · exact refRight_loop A cap L w h h1 h2
    · have HE : Hid (refIsTree L = false) := by show refIsTree L = false; unfold refIsTree; rw [if_pos (by omega)]
      have g1 : ¬ ((L.length : Int) < 1) := by omega
      have g2 : (2000 : Int) < L.length := by omega
      clear h
      go_enter Try.func9, Try.ntmps9
      go_wp2
      go_ret
      exact ⟨ret_bool HE.out.symm, bel_refl _⟩
  · have HE : Hid (refIsTree L = false) := by show refIsTree L = false; unfold refIsTree; rw [if_pos (by omega)]
    have g1 : (L.length : Int) < 1 := by omega
    clear h
    go_enter Try.func9, Try.ntmps9
    go_wp2
    go_ret
    exact ⟨ret_bool HE.out.symm, bel_refl _⟩
end Go.Proofs.Ytlijfkallnomnaa
