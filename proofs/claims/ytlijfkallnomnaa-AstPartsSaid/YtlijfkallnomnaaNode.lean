/-
  Nodes as data; which lists of nodes are trees, as ast.Right goes through them.
-/
import Derived.Test.YtlijfkallnomnaaSpans
import Derived.Test.YtlijfkallnomnaaLeaf
namespace Go.Proofs.Ytlijfkallnomnaa
open Go.RowKit

structure Nd where
  kind : Int
  text : ByteArray
  ka : Option Addr
  kc : Nat
  kids : List Int
  at_ : Int

instance : Inhabited Nd := ⟨⟨0, ByteArray.empty, none, 0, [], 0⟩⟩

/-- The four cells of a node. -/
structure NdAt (w : World) (b o : Nat) (nd : Nd) : Prop where
  c0 : w.cell? ⟨b, o, none⟩ = some (.int .i64 nd.kind)
  c1 : w.cell? ⟨b, o + 1, none⟩ = some (.string nd.text)
  c2 : w.cell? ⟨b, o + 2, none⟩ = some (.slice nd.ka nd.kids.length nd.kc)
  c3 : w.cell? ⟨b, o + 3, none⟩ = some (.int .i64 nd.at_)

/-- The letter 'A' leads to a row of nodes, whose kids read too; K: a bound on every length. -/
structure NdsRb (K : Nat) (w : World) (A : Option Addr) (L : List Nd) : Prop where
  row : 0 < L.length → ∃ b off, A = some ⟨b, off, none⟩ ∧ b < w.heap.size ∧ ∀ k, k < L.length → NdAt w b (off + k * 4) (L.getD k default)
  kids : ∀ nd, nd ∈ L → RdI w nd.ka .i64 nd.kids ∧ nd.kids.length ≤ nd.kc ∧ nd.kids.length ≤ K
  len : L.length ≤ K
abbrev NdsR := NdsRb 140737488355328

theorem NdAt.below {w w' : World} {b o : Nat} {nd : Nd} (h : NdAt w b o nd) (hb : Below w.heap.size w w') (hlt : b < w.heap.size) : NdAt w' b o nd :=
  ⟨(hb.cell (p := ⟨b, o, none⟩) hlt).trans h.c0, (hb.cell (p := ⟨b, o + 1, none⟩) hlt).trans h.c1, (hb.cell (p := ⟨b, o + 2, none⟩) hlt).trans h.c2, (hb.cell (p := ⟨b, o + 3, none⟩) hlt).trans h.c3⟩
theorem NdsRb.below {K : Nat} {w w' : World} {A : Option Addr} {L : List Nd} (h : NdsRb K w A L) (hb : Below w.heap.size w w') : NdsRb K w' A L where
  row := fun hn => by
    obtain ⟨b, off, e, hlt, hc⟩ := h.row hn
    exact ⟨b, off, e, Nat.lt_of_lt_of_le hlt hb.size, fun k hk => (hc k hk).below hb hlt⟩
  kids := fun nd hnd => ⟨(h.kids nd hnd).1.below hb, (h.kids nd hnd).2⟩
  len := h.len

theorem getD_mem {L : List Nd} {k : Nat} (h : k < L.length) : L.getD k default ∈ L := by
  rw [List.getD_eq_getElem?_getD, List.getElem?_eq_getElem h]
  exact List.getElem_mem h

/-- What is asked of node k, its parts by name. -/
theorem NdsRb.node {K : Nat} {w wr : World} {A : Option Addr} {L : List Nd} (h : NdsRb K w A L) (hb : Below w.heap.size w wr) {k : Nat} (hk : k < L.length) :
    ∃ b off kd tx ka kc ks pl, A = some ⟨b, off, none⟩ ∧ (⟨kd, tx, ka, kc, ks, pl⟩ : Nd) = L.getD k default ∧ b < wr.heap.size ∧
      wr.cell? ⟨b, off + k * 4, none⟩ = some (.int .i64 kd) ∧ wr.cell? ⟨b, off + k * 4 + 1, none⟩ = some (.string tx) ∧ wr.cell? ⟨b, off + k * 4 + 2, none⟩ = some (.slice ka ks.length kc) ∧
      wr.cell? ⟨b, off + k * 4 + 3, none⟩ = some (.int .i64 pl) ∧ RdI w ka .i64 ks ∧ ks.length ≤ kc ∧ ks.length ≤ K := by
  have h' := h.below hb
  obtain ⟨b, off, e, hlt, hc⟩ := h'.row (by omega)
  have hm := getD_mem (L := L) hk
  have hn := hc k hk
  exact ⟨b, off, _, _, _, _, _, _, e, rfl, hlt, hn.c0, hn.c1, hn.c2, hn.c3, (h.kids _ hm).1, (h.kids _ hm).2⟩

def spL : List Int := [0,0, 0,0, 0,0, 0,0, 0,0, 0,0, 1,1, 1,-1, 2,-1, 1,1, 2,2, 1,1, 1,1, 2,2, 2,2, 1,-1, 0,-1, 0,-1, 1,1, 1,1, 1,1, 1,-1, 1,1, 2,2, 2,2, 2,2, 0,-1, 1,1, 4,4, 1,1, 1,1, 0,0, 0,-1]
theorem spAll_eq : spAll = arr (Value.int .i64) spL := by kernel_rfl
theorem spL_len : spL.length = 66 := rfl
def least (k : Int) : Int := spL.getD (k.toNat * 2) 0
def most (k : Int) : Int := spL.getD (k.toNat * 2 + 1) 0

/-- Kind, place and number of kids are not as they must be. -/
def headBad (nd : Nd) : Bool :=
  decide (nd.kind < 0) || decide (32 < nd.kind) || decide (nd.at_ < 0) || decide (4000 < nd.at_) ||
    decide ((nd.kids.length : Int) < least nd.kind) || (decide (0 ≤ most nd.kind) && decide (most nd.kind < nd.kids.length))

def kidBad (i : Nat) (u : List Bool) (k : Int) : Bool := decide (k < 0) || decide ((i : Int) ≤ k) || u.getD k.toNat false

def stepKids (i : Nat) : List Int → List Bool → Option (List Bool)
  | [], u => some u
  | k :: ks, u => if kidBad i u k then none else stepKids i ks (u.set k.toNat true)

def stepNode (i : Nat) (nd : Nd) (u : List Bool) : Option (List Bool) := if headBad nd then none else stepKids i nd.kids u

def runTree : List Nd → Nat → List Bool → Option (List Bool)
  | [], _, u => some u
  | nd :: r, i, u => (stepNode i nd u).bind (runTree r (i + 1))

def treeEnd (n : Nat) : Option (List Bool) → Bool
  | none => false
  | some u => !hasB false (u.take (n - 1))

def isTree (L : List Nd) : Bool :=
  if L.length < 1 ∨ 2000 < L.length then false else treeEnd L.length (runTree L 0 (List.replicate L.length false))

theorem stepKids_drop {i : Nat} {ks : List Int} {u : List Bool} {j : Nat} (h : j < ks.length) :
    stepKids i (ks.drop j) u = if kidBad i u (ks.getD j 0) then none else stepKids i (ks.drop (j + 1)) (u.set (ks.getD j 0).toNat true) := by
  rw [List.drop_eq_getElem_cons h, List.getD_eq_getElem?_getD, List.getElem?_eq_getElem h]
  rfl
theorem runTree_drop {L : List Nd} {k : Nat} {u : List Bool} (h : k < L.length) :
    runTree (L.drop k) k u = (stepNode k (L.getD k default) u).bind (runTree (L.drop (k + 1)) (k + 1)) := by
  rw [List.drop_eq_getElem_cons h, List.getD_eq_getElem?_getD, List.getElem?_eq_getElem h]
  rfl

theorem headBad_false {nd : Nd} (h : headBad nd = false) : 0 ≤ nd.kind ∧ nd.kind ≤ 32 ∧ 0 ≤ nd.at_ ∧ nd.at_ ≤ 4000 ∧ least nd.kind ≤ (nd.kids.length : Int) ∧ (0 ≤ most nd.kind → (nd.kids.length : Int) ≤ most nd.kind) := by
  simp only [headBad, Bool.or_eq_false_iff, Bool.and_eq_false_iff, decide_eq_false_iff_not] at h
  obtain ⟨⟨⟨⟨⟨a, b⟩, c⟩, d⟩, e⟩, f⟩ := h
  refine ⟨by omega, by omega, by omega, by omega, by omega, fun g => ?_⟩
  rcases f with f | f <;> omega
theorem headBad_true {nd : Nd} (h : headBad nd = true) : (nd.kind < 0 ∨ (0 ≤ nd.kind ∧ 32 < nd.kind) ∨ (0 ≤ nd.kind ∧ nd.kind ≤ 32 ∧ nd.at_ < 0) ∨ (0 ≤ nd.kind ∧ nd.kind ≤ 32 ∧ 0 ≤ nd.at_ ∧ 4000 < nd.at_)) ∨
    (0 ≤ nd.kind ∧ nd.kind ≤ 32 ∧ 0 ≤ nd.at_ ∧ nd.at_ ≤ 4000 ∧ (nd.kids.length : Int) < least nd.kind) ∨
    (0 ≤ nd.kind ∧ nd.kind ≤ 32 ∧ 0 ≤ nd.at_ ∧ nd.at_ ≤ 4000 ∧ least nd.kind ≤ (nd.kids.length : Int) ∧ 0 ≤ most nd.kind ∧ most nd.kind < nd.kids.length) := by
  simp only [headBad, Bool.or_eq_true, Bool.and_eq_true, decide_eq_true_eq] at h
  omega
theorem kidBad_false {i : Nat} {u : List Bool} {k : Int} (h : kidBad i u k = false) : 0 ≤ k ∧ k < i ∧ u.getD k.toNat false = false := by
  simp only [kidBad, Bool.or_eq_false_iff, decide_eq_false_iff_not] at h
  exact ⟨by omega, by omega, h.2⟩
theorem kidBad_true {i : Nat} {u : List Bool} {k : Int} (h : kidBad i u k = true) : k < 0 ∨ (0 ≤ k ∧ (i : Int) ≤ k) ∨ (0 ≤ k ∧ k < i ∧ u.getD k.toNat false = true) := by
  simp only [kidBad, Bool.or_eq_true, decide_eq_true_eq] at h
  rcases h with (h | h) | h
  · exact .inl h
  · by_cases h0 : k < 0
    · exact .inl h0
    · exact .inr (.inl ⟨by omega, h⟩)
  · by_cases h0 : k < 0
    · exact .inl h0
    · by_cases h1 : (i : Int) ≤ k
      · exact .inr (.inl ⟨by omega, h1⟩)
      · exact .inr (.inr ⟨by omega, by omega, h⟩)
theorem isTree_of {L : List Nd} (h1 : 1 ≤ L.length) (h2 : L.length ≤ 2000) {x : Option (List Bool)} (h : runTree L 0 (List.replicate L.length false) = x) : isTree L = treeEnd L.length x := by
  unfold isTree
  rw [if_neg (by omega), h]
theorem spans_cells {w : World} {g : Nat} {t : TypeId} (h : Blk w g t spAll) {k : Int} (h0 : 0 ≤ k) (h1 : k ≤ 32) :
    w.cell? ⟨g, k.toNat * 2, none⟩ = some (.int .i64 (least k)) ∧ w.cell? ⟨g, k.toNat * 2 + 1, none⟩ = some (.int .i64 (most k)) := by
  rw [spAll_eq] at h
  exact ⟨h.at_ 0 (by rw [spL_len]; omega), h.at_ 0 (by rw [spL_len]; omega)⟩
end Go.Proofs.Ytlijfkallnomnaa
