/-
  Numbers that came in, opened.
-/
import Derived.Test.YtmbbdjpnecjleaaNLaw
import Derived.Test.YtmbbdjpnecjleaaOpen
namespace Go.Proofs.Ytmbbdjpnecjleaa
set_option maxRecDepth 100000
open Go.RowKit Go.ChangeShapes Go.WideShapes

section
variable {H : Type} {enc : TypeId × Value → H} {w : World} {base : Nat} {spare : Nat → Bool} {held : Bool}
theorem wf_u32 {n : Int} (h : (Lit.int .u32 n).wf = true) : 0 ≤ n ∧ n < 4294967296 := by
  simp [Lit.wf, IntKind.min, IntKind.max, IntKind.bits, IntKind.signed] at h
  omega
theorem wf_u64 {n : Int} (h : (Lit.int .u64 n).wf = true) : 0 ≤ n ∧ n < 18446744073709551616 := by
  simp [Lit.wf, IntKind.min, IntKind.max, IntKind.bits, IntKind.signed] at h
  omega
theorem wf_i64 {n : Int} (h : (Lit.int .i64 n).wf = true) : -9223372036854775808 ≤ n ∧ n ≤ 9223372036854775807 := by
  simp [Lit.wf, IntKind.min, IntKind.max, IntKind.bits, IntKind.signed] at h
  omega
theorem open_rdL {fuel : Nat} {v : Value} {x : DataW H × List MemPlace} (h : DataW.trod enc Try.prog w base spare held fuel 23 [v] = some x) :
    ∃ A cap xs, v = .slice A xs.length cap ∧ xs.length ≤ cap ∧ RdL w A xs ∧ Lim xs := by
  obtain ⟨A, cap, zs, rfl, h1, _, hr, hw⟩ := open_rdI Try.underlying23 Try.underlying80 (by kernel_rfl) h
  refine ⟨A, cap, zs.map Int.toNat, by rw [List.length_map], by rw [List.length_map]; exact h1, ?_, ?_⟩
  · unfold RdL
    rw [List.length_map]
    refine Rd.congr hr fun k hk => ?_
    have hz := wf_u32 (hw (zs[k]) (List.getElem_mem hk))
    simp [hk]
    omega
  · intro y hy
    obtain ⟨z, hz, rfl⟩ := List.mem_map.1 hy
    have := wf_u32 (hw z hz)
    rw [B32_eq]
    omega
end
end Go.Proofs.Ytmbbdjpnecjleaa
