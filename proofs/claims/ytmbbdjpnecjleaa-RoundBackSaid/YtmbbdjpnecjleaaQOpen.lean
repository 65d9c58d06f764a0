/-
  Fractions that came in, opened.
-/
import Derived.Test.YtmbbdjpnecjleaaNOpen
import Derived.Deep.Strs
namespace Go.Proofs.Ytmbbdjpnecjleaa
open Go.RowKit Go.ChangeShapes Go.WideShapes Go.Deep

section
variable {H : Type} {enc : TypeId × Value → H} {w : World} {base : Nat} {spare : Nat → Bool} {held : Bool}
set_option maxRecDepth 100000 in
theorem open_rat {fuel : Nat} {cs : List Value} {x : DataW H × List MemPlace} (h : DataW.trod enc Try.prog w base spare held fuel 25 cs = some x) :
    ∃ s A c xs B d ys, cs = [.bool s, .slice A (List.length xs) c, .slice B (List.length ys) d] ∧ xs.length ≤ c ∧ ys.length ≤ d ∧ RdL w A xs ∧ RdL w B ys ∧ Lim xs ∧ Lim ys := by
  obtain ⟨xs0, n, _, rfl, hl, hlen, hf⟩ := DataW.trod_struct Try.underlying25 h
  have hl3 : cs.length = 3 := hl.trans (by kernel_rfl)
  match cs, hl3 with
  | [v0, v1, v2], _ =>
    match xs0, hlen with
    | [y0, y1, y2], _ =>
      have h0 : DataW.trod enc Try.prog w base spare held n 4 [v0] = some y0 := by
        have := hf 0 _ rfl
        simpa [show Try.prog.cellsOf 4 = 1 by kernel_rfl] using this
      have h1 : DataW.trod enc Try.prog w base spare held n 23 [v1] = some y1 := by
        have := hf 1 _ rfl
        simpa [show Try.prog.cellsOf 23 = 1 by kernel_rfl] using this
      have h2 : DataW.trod enc Try.prog w base spare held n 23 [v2] = some y2 := by
        have := hf 2 _ rfl
        simpa [show Try.prog.cellsOf 23 = 1 by kernel_rfl] using this
      obtain ⟨s, e0, _⟩ := DataW.trod_bool Try.underlying4 h0
      obtain ⟨A, c, xs, e1, hc, hr, hx⟩ := open_rdL h1
      obtain ⟨B, d, ys, e2, hd, hr2, hy⟩ := open_rdL h2
      simp only [List.cons.injEq, and_true] at e0
      subst e0 e1 e2
      exact ⟨s, A, c, xs, B, d, ys, rfl, hc, hd, hr, hr2, hx, hy⟩
end
end Go.Proofs.Ytmbbdjpnecjleaa
