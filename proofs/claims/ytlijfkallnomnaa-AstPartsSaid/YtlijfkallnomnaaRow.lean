/-
  Nodes that came in, opened.
-/
import Derived.Test.YtlijfkallnomnaaNodeOwn
import Derived.Test.YtlijfkallnomnaaOpen
namespace Go.Proofs.Ytlijfkallnomnaa
open Go.RowKit Go.ChangeShapes Go.WideShapes

section
variable {H : Type} {enc : TypeId × Value → H} {w : World} {base : Nat} {spare : Nat → Bool} {held : Bool}

/-- One node, by its four cells. -/
theorem open_node {fuel : Nat} {cs : List Value} {x : DataW H × List MemPlace} (h : DataW.trod enc Try.prog w base spare held fuel 37 cs = some x) :
    ∃ nd : Nd, cs = [.int .i64 nd.kind, .string nd.text, .slice nd.ka nd.kids.length nd.kc, .int .i64 nd.at_] ∧ RdI w nd.ka .i64 nd.kids ∧ nd.kids.length ≤ nd.kc ∧ nd.kc ≤ maxLen := by
  obtain ⟨xs, n, _, _, hlen, hxl, hf⟩ := DataW.trod_struct Try.underlying37 h
  have hl4 : cs.length = 4 := hlen.trans (by kernel_rfl)
  match cs, hl4 with
  | [c0, c1, c2, c3], _ =>
    have e3 : Try.prog.cellsOf 3 = 1 := by kernel_rfl
    have e9 : Try.prog.cellsOf 9 = 1 := by kernel_rfl
    have e35 : Try.prog.cellsOf 35 = 1 := by kernel_rfl
    have hx4 : xs.length = 4 := hxl
    match xs, hx4 with
    | [x0, x1, x2, x3], _ =>
      have f0 := hf 0 ⟨ "Kind", 3, 0, false, "", "", 0⟩ rfl
      have f1 := hf 1 ⟨ "Text", 9, 1, false, "", "", 8⟩ rfl
      have f2 := hf 2 ⟨ "Kids", 35, 2, false, "", "", 24⟩ rfl
      have f3 := hf 3 ⟨ "At", 3, 3, false, "", "", 48⟩ rfl
      dsimp only at f0 f1 f2 f3
      simp only [e3, e9, e35, List.drop_zero, List.drop_succ_cons, List.take_succ_cons, List.take_zero] at f0 f1 f2 f3
      obtain ⟨k, h0, _, _⟩ := DataW.trod_int Try.underlying3 f0
      obtain ⟨s, h1, _, _⟩ := DataW.trod_string Try.underlying9 f1
      obtain ⟨a, c, ks, h2, hk1, hk2, hk3, _⟩ := open_rdI Try.underlying35 Try.underlying3 e3 f2
      obtain ⟨p, h3, _, _⟩ := DataW.trod_int Try.underlying3 f3
      simp only [List.cons.injEq, and_true] at h0 h1 h3
      subst h0 h1 h2 h3
      exact ⟨⟨k, s, a, c, ks, p⟩, rfl, hk3, hk1, hk2⟩

theorem open_nodes {fuel : Nat} {v : Value} {x : DataW H × List MemPlace} (h : DataW.trod enc Try.prog w base spare held fuel 22 [v] = some x) :
    ∃ A cap L, v = .slice A L.length cap ∧ L.length ≤ cap ∧ NdsRb maxLen w A L := by
  rcases Go.Deep.open_slice Try.underlying22 h with ⟨hcs, _⟩ | ⟨a, len, cap, m, n, D, Pl, hcs, _, hl, hm, hmm, _, hi⟩
  · simp only [List.cons.injEq, and_true] at hcs
    subst hcs
    exact ⟨none, 0, [], rfl, Nat.le_refl _, fun h => by simp at h, fun nd hnd => by simp at hnd, Nat.zero_le _⟩
  · simp only [List.cons.injEq, and_true] at hcs
    subst hcs
    have e37 : Try.prog.cellsOf 37 = 4 := by kernel_rfl
    have hlm : len ≤ m := by rw [hmm]; split <;> omega
    have hex : ∀ i, i < len → ∃ nd : Nd, (∀ j, j < 4 → w.cell? ((a.add (i * 4)).add j) = nd.cells[j]?) ∧ RdI w nd.ka .i64 nd.kids ∧ nd.kids.length ≤ nd.kc ∧ nd.kc ≤ maxLen := fun i hil => by
      obtain ⟨cs', hc, ht⟩ := hi i (by omega)
      rw [e37] at hc
      obtain ⟨nd, rfl, h1, h2, h3⟩ := open_node ht
      obtain ⟨_, _, hat⟩ := World.cells?_some hc
      exact ⟨nd, hat, h1, h2, h3⟩
    obtain ⟨F, hF⟩ := Go.Deep.choose_lt hex
    have hlen : ((List.range len).map F).length = len := by simp
    have hget : ∀ k, k < len → ((List.range len).map F).getD k default = F k := fun k hk => by simp [hk]
    refine ⟨some a, cap, (List.range len).map F, by rw [hlen], by omega, fun hn => ?_, fun nd hnd => ?_, by rw [hlen]; omega⟩
    · rw [hlen] at hn
      have h00 := (hF 0 hn).1 0 (by omega)
      have hz : (a.add (0 * 4)).add 0 = a := by simp [Addr.add]
      rw [hz] at h00
      have ha := addr_plain h00
      refine ⟨a.block, a.off, by rw [← ha], World.block_lt_of_cell? w a h00, fun k hk => ?_⟩
      rw [hlen] at hk
      rw [hget k hk]
      have hc := (hF k hk).1
      have he : ∀ j, j < 4 → w.cell? ⟨a.block, a.off + k * 4 + j, none⟩ = (F k).cells[j]? := fun j hj => by
        have := hc j hj
        rw [ha, addr_add, addr_add] at this
        exact this
      exact ⟨he 0 (by omega), he 1 (by omega), he 2 (by omega), he 3 (by omega)⟩
    · obtain ⟨i, hi', rfl⟩ := List.mem_map.1 hnd
      have hil := List.mem_range.1 hi'
      obtain ⟨_, h1, h2, h3⟩ := hF i hil
      exact ⟨h1, h2, by omega⟩
end
end Go.Proofs.Ytlijfkallnomnaa
