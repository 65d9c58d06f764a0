/-
  A row of nodes that the call itself has made.
-/
import Derived.Test.YtlijfkallnomnaaNode
import Derived.Test.YtlijfkallnomnaaOwn
namespace Go.Proofs.Ytlijfkallnomnaa
open Go.RowKit

theorem info_node : (Try.prog.info? 37).map (fun i => (i.zero, i.size, i.bytes)) = some (some (.agg #[.int .i64 0, .string ByteArray.empty, .slice none 0 0, .int .i64 0]), 4, 56) := by kernel_rfl
theorem info_int : (Try.prog.info? 3).map (fun i => (i.zero, i.size, i.bytes)) = some (some (.int .i64 0), 1, 8) := by kernel_rfl
theorem zeroNode (w : World) : (zeroValue 37).run Try.prog w = .ok (.agg #[.int .i64 0, .string ByteArray.empty, .slice none 0 0, .int .i64 0]) w := by kernel_rfl

theorem addr_map_zero (A : Option Addr) : A.map (·.add 0) = A := by cases A <;> simp [Addr.add]
/-- 'x[:n]'. -/
theorem run_cut_to {P : Program} (t e : TypeId) (i : TypeInfo) (ht : P.underlying t = some (.slice e)) (hi : P.info? e = some i) (A : Option Addr) (len cap n : Nat) (hn : n ≤ cap) (W : World) :
    (Instr.slice t (.slice A len cap) none (some (.int .i64 (n : Int))) none).run P W = .ok (.slice A n cap) W := by
  have he : P.elem t = e := by simp [Program.elem, ht]
  rw [run_slice_h W t A len cap (by rw [he]; exact ht) .i64 n (by omega) (by omega), he]
  simp only [sizeOf, typeInfo]
  simp [hi, sliced]
  rw [show (fun x : Addr => x.add 0) = (·.add 0) from rfl, addr_map_zero]
  simp

def Nd.cells (nd : Nd) : List Value := [.int .i64 nd.kind, .string nd.text, .slice nd.ka nd.kids.length nd.kc, .int .i64 nd.at_]
theorem nd_one (k p : Int) (t : ByteArray) (a : Option Addr) (n c : Nat) : ∀ u ∈ [Value.int .i64 k, .string t, .slice a n c, .int .i64 p], u.oneCell' = true := by
  intro u hu
  simp only [List.mem_cons, List.not_mem_nil, or_false] at hu
  rcases hu with rfl | rfl | rfl | rfl <;> rfl

theorem flatCells_len (M : List Nd) : (M.flatMap Nd.cells).length = M.length * 4 := by
  induction M with
  | nil => rfl
  | cons x r ih => simp only [List.flatMap_cons, List.length_append, ih, List.length_cons]; simp [Nd.cells]; omega
theorem flatCells_get (M : List Nd) : ∀ (k j : Nat), k < M.length → j < 4 → (M.flatMap Nd.cells).getD (k * 4 + j) undef = (M.getD k default).cells.getD j undef := by
  induction M with
  | nil => intro k j h; simp at h
  | cons x r ih =>
    intro k j h hj
    have hx : x.cells.length = 4 := rfl
    match k with
    | 0 =>
      simp only [List.flatMap_cons, Nat.zero_mul, Nat.zero_add, List.getD_eq_getElem?_getD]
      rw [List.getElem?_append_left (by omega)]
      rfl
    | k + 1 =>
      have h' := ih k j (by simpa using h) hj
      simp only [List.getD_eq_getElem?_getD] at h'
      simp only [List.flatMap_cons, List.getD_eq_getElem?_getD]
      rw [List.getElem?_append_right (by omega), hx, show (k + 1) * 4 + j - 4 = k * 4 + j from by omega, h']
      rfl

/-- What is owned as nodes reads as nodes. -/
theorem own_nds {w : World} {base : Nat} {e : TypeId} {v : Value} {k : Nat} {M : List Nd} (h : w.ownsRow base e 4 v k (M.flatMap Nd.cells)) (hk : k = M.length) (hlen : M.length ≤ 140737488355328)
    (hkids : ∀ nd, nd ∈ M → RdI w nd.ka .i64 nd.kids ∧ nd.kids.length ≤ nd.kc ∧ nd.kids.length ≤ 140737488355328) :
    ∃ A cap, v = .slice A M.length cap ∧ M.length ≤ cap ∧ NdsR w A M := by
  subst hk
  obtain ⟨A, cap, rfl, hc, _, hrd⟩ := own_read h (by rw [flatCells_len]; exact Nat.le_refl _)
  refine ⟨A, cap, rfl, hc, fun hn => ?_, hkids, hlen⟩
  obtain ⟨b, off, e, hb, hcell⟩ := hrd (by omega)
  have hj : ∀ j, j < 4 → ∀ k, k < M.length → w.cell? ⟨b, off + (k * 4 + j), none⟩ = some ((M.getD k default).cells.getD j undef) := fun j hj k hk => by
    rw [hcell (k * 4 + j) (by omega)]
    show some ((List.flatMap Nd.cells M).getD (k * 4 + j) undef) = _
    rw [flatCells_get M k j hk hj]
  refine ⟨b, off, e, hb, fun k hk => ⟨?_, ?_, ?_, ?_⟩⟩
  · exact hj 0 (by omega) k hk
  · have := hj 1 (by omega) k hk; rwa [← Nat.add_assoc] at this
  · have := hj 2 (by omega) k hk; rwa [← Nat.add_assoc] at this
  · have := hj 3 (by omega) k hk; rwa [← Nat.add_assoc] at this

/-- A call that hands nodes back. -/
def RetNds (M : List Nd) (w : World) (e : Ending) (w' : World) : Prop :=
  ∃ A cap, e = .returned (.slice A M.length cap) ∧ M.length ≤ cap ∧ NdsR w' A M ∧ Below w.heap.size w w'
end Go.Proofs.Ytlijfkallnomnaa
