/-
  ast.Right.
-/
import Derived.Test.YtlijfkallnomnaaNode
import Derived.Test.YtlijfkallnomnaaKids
namespace Go.Proofs.Ytlijfkallnomnaa
open Go.RowKit

theorem info_bool : (Try.prog.info? 4).map (fun i => (i.zero, i.size, i.bytes)) = some (some (.bool false), 1, 1) := by kernel_rfl
theorem zeroNode (w : World) : (zeroValue 37).run Try.prog w = .ok (.agg #[.int .i64 0, .string ByteArray.empty, .slice none 0 0, .int .i64 0]) w := by kernel_rfl

/-- What holds at the head of each round of the outer loop. -/
structure RightRel (w w1 wr : World) (L : List Nd) (k : Nat) (u : List Bool) : Prop where
  le : k ≤ L.length
  old : Below w.heap.size w wr
  spans : Blk wr w1.heap.size 40 spAll
  used : Blk wr (w1.heap.size + 1) 4 (arr Value.bool u)
  far : w.heap.size ≤ w1.heap.size
  len : u.length = L.length
  rest : runTree L 0 (List.replicate L.length false) = runTree (L.drop k) k u

/-- What holds at the head of each round of the inner loop: the node's kids before its place m are marked. -/
structure RightIn (w w1 wj : World) (L : List Nd) (ks : List Int) (k : Nat) (u : List Bool) (m : Nat) (u' : List Bool) : Prop where
  le : m ≤ ks.length
  old : Below w.heap.size w wj
  spans : Blk wj w1.heap.size 40 spAll
  used : Blk wj (w1.heap.size + 1) 4 (arr Value.bool u')
  len : u'.length = L.length
  rest : stepKids k ks u = stepKids k (ks.drop m) u'

set_option maxRecDepth 100000 in
set_option maxHeartbeats 1000000 in
theorem right_loop (A : Option Addr) (cap : Nat) (L : List Nd) (w : World) (h : NdsR w A L) (h1 : 1 ≤ L.length) (h2 : L.length ≤ 2000) :
    Calls Try.prog 8 #[.slice A L.length cap] w (RetBB (isTree L) w) := by
  have hz := zero40
  have H := Lib.hid h; clear h
  have g1 : ¬ ((L.length : Int) < 1) := by omega
  have g2 : ¬ ((2000 : Int) < L.length) := by omega
  have hmk := fun W => run_mk (P := Try.prog) Value.bool false 42 4 1 (by kernel_rfl) info_bool rfl L.length (by omega) (by omega) W
  go_enter Try.func8, Try.ntmps8
  go_wp2_with (first
    | (go_at_call 17; refine (spans_any _).mono ?_; rintro e w1 ⟨rfl, hb1⟩)
    | (refine wpList_store_row rfl 40 (.tmp 3) (.tmp 18) rfl w1.heap.size spAll rfl rfl 40 zero66 ?hy spAll_info zero66_size spAll_one ?_))
  case hy => exact Blk.new _ _ _
  go_loopw [24] (fun i wr => ∃ k : Nat, i = .int .i64 k ∧ ∃ u, RightRel w w1 wr L k u) (fun i _ => L.length - (intOf i).toNat)
  case atStart =>
    refine ⟨0, rfl, List.replicate L.length false, Nat.zero_le _, ?_, ?_, ?_, hb1.size, by simp, rfl⟩
    · exact (below_setRow (hb1.alloc hb1.size _) hb1.size _).alloc (by simp; have := hb1.size; omega) _
    · exact Blk.alloc (setRow_heap _ _ _ _ _ _ (Blk.new _ _ _)) _
    · have h := Blk.new ((w1.alloc (.cells zero66 40)).setRow w1.heap.size spAll) 4 (arr Value.bool (List.replicate L.length false))
      simpa using h
  case round =>
    obtain ⟨k, rfl, u, hrel⟩ := hrel
    have HR := Lib.hid hrel; clear hrel
    by_cases hlt : k < L.length
    · obtain ⟨b, off, kd, tx, ka, kc, ks, pl, rfl, hnd, hb, c0, c1, c2, c3, hkids, hkl, hkc⟩ := H.out.node HR.out.old hlt
      have Hnd := Lib.hid hnd; clear hnd
      have HK := Lib.hid hkids; clear hkids
      have hs : w1.heap.size < wr.heap.size := HR.out.spans.lt
      have hs' : w1.heap.size + 1 < wr.heap.size := HR.out.used.lt
      cases hbad : headBad ⟨kd, tx, ka, kc, ks, pl⟩
      case true =>
        have HB := Lib.hid hbad
        have HE : Hid (isTree L = false) := by
          show isTree L = false
          rw [isTree_of h1 h2 HR.out.rest, runTree_drop hlt, ← Hnd.out, stepNode, if_pos HB.out]
          rfl
        have hbs := headBad_true hbad
        dsimp only at hbs
        clear hbad
        rcases hbs with (b0 | ⟨b0, b1⟩ | ⟨b0, b1, b2⟩ | ⟨b0, b1, b2, b3⟩) | hbs
        iterate 4
          · go_wp2
            go_ret
            exact ⟨ret_bool HE.out.symm, HR.out.old.alloc HR.out.old.size _⟩
        rcases hbs with ⟨b0, b1, b2, b3, b4⟩ | ⟨b0, b1, b2, b3, b4, b5, b6⟩
        all_goals
          obtain ⟨s0, s1⟩ := spans_cells HR.out.spans b0 b1
          go_wp2
          go_ret
          exact ⟨ret_bool HE.out.symm, (HR.out.old.alloc HR.out.old.size _).alloc (by simp; have := HR.out.old.size; omega) _⟩
      case false =>
        have HB := Lib.hid hbad
        have hbs := headBad_false hbad
        dsimp only at hbs
        clear hbad
        obtain ⟨b0, b1, b2, b3, b4, b5⟩ := hbs
        obtain ⟨s0, s1⟩ := spans_cells HR.out.spans b0 b1
        have HI : Hid (RightIn w w1 ((wr.alloc (.cells #[.int .i64 kd, .string tx, .slice ka ks.length kc, .int .i64 pl] 37)).alloc (.cells #[.int .i64 (least kd), .int .i64 (most kd)] 39)) L ks k u 0 u) :=
          ⟨Nat.zero_le _, (HR.out.old.alloc HR.out.old.size _).alloc (by simp; have := HR.out.old.size; omega) _, (HR.out.spans.alloc _).alloc _, (HR.out.used.alloc _).alloc _, HR.out.len, rfl⟩
        by_cases t1 : 0 ≤ most kd
        all_goals
          go_wp2
          go_loopw [73] (fun j wj => ∃ m : Nat, j = .int .i64 m ∧ ∃ u', RightIn w w1 wj L ks k u m u') (fun j _ => ks.length - (intOf j).toNat)
          case atStart => exact ⟨0, rfl, u, HI.out⟩
          case round =>
            obtain ⟨m, rfl, u', hin⟩ := hrel
            have HJ := Lib.hid hin; clear hin
            clear c0 c1 c2 c3 s0 s1 b0 b1 b2 b3 b4 b5 HI hs hs' hb
            by_cases hm : m < ks.length
            · obtain ⟨b', off', rfl, hb', hcell⟩ := (HK.out.below HJ.out.old).at_ hm
              obtain ⟨q, hq⟩ : ∃ q, q = ks.getD m 0 := ⟨_, rfl⟩
              rw [← hq] at hcell
              have Hq := Lib.hid hq; clear hq
              have hg : w1.heap.size + 1 < wr.heap.size := HJ.out.used.lt
              cases hbad : kidBad k u' q
              case true =>
                have HE : Hid (isTree L = false) := by
                  show isTree L = false
                  rw [isTree_of h1 h2 HR.out.rest, runTree_drop hlt, ← Hnd.out, stepNode, if_neg (by rw [HB.out]; simp)]
                  show treeEnd _ (Option.bind (stepKids k ks u) _) = false
                  rw [HJ.out.rest, stepKids_drop hm, ← Hq.out, if_pos hbad]
                  rfl
                have hbs := kidBad_true hbad
                clear hbad
                rcases hbs with q0 | ⟨q0, q1⟩ | ⟨q0, q1, q2⟩
                iterate 2
                  · go_wp2
                    go_ret
                    exact ⟨ret_bool HE.out.symm, HJ.out.old⟩
                have hu := HJ.out.used.at_ false (k := q.toNat) (by have := HJ.out.len; omega)
                rw [q2] at hu
                have Hq2 := Lib.hid q2; clear q2
                go_wp2
                go_ret
                exact ⟨ret_bool HE.out.symm, HJ.out.old⟩
              case false =>
                have HQ := Lib.hid hbad
                obtain ⟨q0, q1, q2⟩ := kidBad_false hbad
                clear hbad
                have hu := HJ.out.used.at_ false (k := q.toNat) (by have := HJ.out.len; omega)
                rw [q2] at hu
                clear q2
                have hfz := HJ.out.used.frozen q.toNat
                go_wp2
                go_roundw
                case rel => exact ⟨m + 1, by go_num, _, hm, HJ.out.old.setCell (by have := HR.out.far; simp; omega) _, HJ.out.spans.far (by simp) _, HJ.out.used.set_ q.toNat true, by simp [HJ.out.len], by rw [HJ.out.rest, stepKids_drop hm, ← Hq.out, if_neg (by rw [HQ.out]; simp)]⟩
                case measure => simp [intOf]; omega
            · go_wp2
              go_roundw
              case rel =>
                refine ⟨k + 1, by go_num, u', hlt, HJ.out.old, HJ.out.spans, HJ.out.used, HR.out.far, HJ.out.len, ?_⟩
                rw [HR.out.rest, runTree_drop hlt, ← Hnd.out, stepNode, if_neg (by rw [HB.out]; simp)]
                show Option.bind (stepKids k ks u) _ = _
                rw [HJ.out.rest, List.drop_of_length_le (by omega)]
                rfl
              case measure => simp [intOf]; omega
    · have hlk : k = L.length := by have := HR.out.le; omega
      have Hlk := Lib.hid hlk; clear hlk
      have HE : Hid (isTree L = !hasB false (u.take (L.length - 1))) := by
        show isTree L = _
        rw [isTree_of h1 h2 HR.out.rest, List.drop_of_length_le (by omega)]
        rfl
      have hrd := Lib.hid (HR.out.used.rdB.take (L.length - 1))
      have hul := Lib.hid HR.out.len
      go_wp2_with (go_at_call 18; (with_reducible refine (contains_anyN _ _ _ false (u.take (L.length - 1)) _ ?_ ?_ ?_).mono ?_); (rw [List.length_take, hul.out]; omega); (rw [List.length_take, hul.out]; omega); exact hrd.out; rintro e w' ⟨rfl, rfl⟩)
      go_ret
      exact ⟨ret_bool HE.out.symm, HR.out.old⟩
end Go.Proofs.Ytlijfkallnomnaa
