/-
  Arguments that came in, opened to rows that read.
-/
import Derived.Test.YtmbbdjpnecjleaaLib
import Derived.ProofKit
import Derived.Deep.Slices
import Derived.Deep.Fields
import Derived.ChangeSame
namespace Go.Proofs.Ytmbbdjpnecjleaa
open Go.RowKit Go.ChangeShapes Go.WideShapes

theorem addr_plain {w : World} {a : Addr} {v : Value} (h : w.cell? a = some v) : a = ⟨a.block, a.off, none⟩ := by
  have := World.cell?_spot h
  cases a
  simp at this
  subst this
  rfl
theorem addr_add (b off i : Nat) : (⟨b, off, none⟩ : Addr).add i = ⟨b, off + i, none⟩ := by
  unfold Addr.add
  split <;> simp_all

section
variable {H : Type} {enc : TypeId × Value → H} {P : Program} {w : World} {base : Nat} {spare : Nat → Bool} {held : Bool}

/-- A row of one-cell elements at an address: 'a.add i' said by its block. -/
theorem rd_of_add {a : Addr} {n : Nat} {f : Nat → Value} (h : ∀ i, i < n → w.cell? (a.add i) = some (f i)) : Rd w (some a) n f := fun hn => by
  have h0 := h 0 hn
  rw [Addr.add, if_pos rfl] at h0
  have ha := addr_plain h0
  refine ⟨a.block, a.off, by rw [← ha], World.block_lt_of_cell? w a h0, fun k hk => ?_⟩
  have := h k hk
  rw [ha, addr_add] at this
  exact this

theorem open_rdI {t e : TypeId} {k : IntKind} {fuel : Nat} {v : Value} {x : DataW H × List MemPlace} (ht : P.underlying t = some (.slice e)) (he : P.underlying e = some (.int k)) (hc : P.cellsOf e = 1)
    (h : DataW.trod enc P w base spare held fuel t [v] = some x) :
    ∃ A cap xs, v = .slice A xs.length cap ∧ xs.length ≤ cap ∧ cap ≤ maxLen ∧ RdI w A k xs ∧ ∀ n ∈ xs, (Lit.int k n).wf = true := by
  rcases open_ints ht he hc h with ⟨hcs, _⟩ | ⟨a, len, cap, zs, hcs, _, hl, hm, hz, _, hcell, hwz⟩
  · simp only [List.cons.injEq, and_true] at hcs
    subst hcs
    exact ⟨none, 0, [], rfl, Nat.le_refl _, Nat.zero_le _, Rd.nil, by simp⟩
  · simp only [List.cons.injEq, and_true] at hcs
    subst hcs
    have hzl : len ≤ zs.length := by rw [hz]; split <;> omega
    have hlen : (zs.take len).length = len := by rw [List.length_take]; omega
    refine ⟨some a, cap, zs.take len, by rw [hlen], by omega, hm, ?_, fun n hn => hwz n (List.mem_of_mem_take hn)⟩
    unfold RdI
    rw [hlen]
    refine rd_of_add fun i hi => ?_
    rw [hcell i (by omega)]
    simp [hi]
end
end Go.Proofs.Ytmbbdjpnecjleaa
