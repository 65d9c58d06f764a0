/-
  The law's 'alive': a sum.
-/
import Derived.Test.YtlijfkallnomnaaDeep
import Derived.Test.YtlijfkallnomnaaRefTree
namespace Go.Proofs.Ytlijfkallnomnaa
open Go.RowKit

/-- Nodes that were just laid. -/
theorem NdsRb.new {w : World} {M : List Nd} (t : TypeId) (N : Nat) (hN : w.heap.size = N) (cs : Array Value) (hcs : cs = (M.flatMap Nd.cells).toArray) (hlen : M.length ≤ 140737488355328)
    (hkids : ∀ nd, nd ∈ M → RdI w nd.ka .i64 nd.kids ∧ nd.kids.length ≤ nd.kc ∧ nd.kids.length ≤ 140737488355328) : NdsR (w.alloc (.cells cs t)) (some ⟨N, 0, none⟩) M where
  row := fun hn => by
    subst hN
    subst hcs
    have hc : ∀ j, j < 4 → ∀ k, k < M.length → (w.alloc (.cells (M.flatMap Nd.cells).toArray t)).cell? ⟨w.heap.size, k * 4 + j, none⟩ = some ((M.getD k default).cells.getD j undef) := fun j hj k hk => by
      rw [cell_of_row _ _ _ _ t (0, 0) (heap_alloc_new w _), ← flatCells_get M k j hk hj]
      have : k * 4 + j < (M.flatMap Nd.cells).length := by rw [flatCells_len]; omega
      simp [List.getElem?_eq_getElem this]
    refine ⟨w.heap.size, 0, rfl, by simp, fun k hk => ⟨?_, ?_, ?_, ?_⟩⟩
    · have := hc 0 (by omega) k hk; rw [Nat.zero_add]; exact this
    · have := hc 1 (by omega) k hk; rw [Nat.zero_add]; exact this
    · have := hc 2 (by omega) k hk; rw [Nat.zero_add]; exact this
    · have := hc 3 (by omega) k hk; rw [Nat.zero_add]; exact this
  kids := fun nd hnd => ⟨(hkids nd hnd).1.below (bel_alloc (bel_refl _) _), (hkids nd hnd).2⟩
  len := hlen

def sumNodes (N : Nat) : List Nd := [⟨1, ⟨#[120]⟩, none, 0, [], 0⟩, ⟨1, ⟨#[121]⟩, none, 0, [], 0⟩, ⟨10, ⟨#[43]⟩, some ⟨N, 0, none⟩, 2, [0, 1], 0⟩]
theorem sum_tree (N : Nat) : isTree (sumNodes N) = true := rfl
theorem sum_deep (N : Nat) : dep (sumNodes N) 2 = 2 := rfl

def RetT (w : World) (e : Ending) (w' : World) : Prop := e = .returned (.bool true) ∧ Below w.heap.size w w'

set_option maxRecDepth 100000 in
set_option maxHeartbeats 400000 in
theorem alive_any (w : World) : Calls Try.prog 7 #[] w (RetT w) := by
  have hN : Hid (NdsR ((w.alloc (.cells #[.int .i64 0, .int .i64 1] 3)).alloc (.cells ((sumNodes w.heap.size).flatMap Nd.cells).toArray 37)) (some ⟨w.heap.size + 1, 0, none⟩) (sumNodes w.heap.size)) := by
    refine NdsRb.new _ _ (by simp) _ rfl (Nat.le_of_lt (by show 3 < 140737488355328; decide)) ?_
    intro nd hnd
    simp only [sumNodes, List.mem_cons, List.not_mem_nil, or_false] at hnd
    rcases hnd with rfl | rfl | rfl
    · exact ⟨Rd.nil, by decide, by decide⟩
    · exact ⟨Rd.nil, by decide, by decide⟩
    · exact ⟨RdI.newAt w .i64 [0, 1] 3 _ rfl, by show 2 ≤ 2; decide, by show 2 ≤ 140737488355328; decide⟩
  go_enter Try.func7, Try.ntmps7
  go_wp2_with fail
  refine (deep_tree (some ⟨w.heap.size + 1, 0, none⟩) 3 (sumNodes w.heap.size) _ hN.out (sum_tree _) ((isTree_iff _).1 (sum_tree _)).kids (by show 1 ≤ 3; decide) (by show 3 ≤ 2000; decide)).mono ?_
  rintro e w1 ⟨rfl, hb1⟩
  rw [show (sumNodes w.heap.size).length - 1 = 2 from rfl, sum_deep]
  have HB1 := Lib.hid hb1; clear hb1
  go_wp2_with fail
  refine (right_any (some ⟨w.heap.size + 1, 0, none⟩) 3 (sumNodes w.heap.size) _ (hN.out.below HB1.out)).mono ?_
  rintro e w2 ⟨rfl, hb2⟩
  rw [sum_tree]
  have HB2 := Lib.hid hb2; clear hb2
  go_wp2
  go_ret
  exact ⟨rfl, bel_trans (bel_trans (bel_alloc (bel_alloc (bel_refl _) _) _) HB1.out) HB2.out⟩
end Go.Proofs.Ytlijfkallnomnaa
