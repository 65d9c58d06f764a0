/-
  No cell of these rows narrows 'for every input' (looked for: loops, veiled, ifaces, maps, wideKeys, modest, calm, conditions, laid).
  DERIVED. THE GIVEN ROWS OF THIS SEAT. 3 by the template 'for every input the law returns true; each argument reads behind the call as it read before'; 0 by the template 'total and deterministic' (their statements: YtfcjliiemiahkaaTotals.lean).
  GIVEN WITH THE SEED: the statements are not yours to turn. If you find one false, say at which input.
  Laid BY PROGRAM, IN A SANDBOX (cutbox-rows.mjs): the forced cells as the released guide's own fill.sh prints them over the translation 72ea00a3c25d20d3… (all of the seat's roots in one cut). By AI agents, Wed Nov 11 2026. No macro, syntax, notation, axiom, sorry.
-/
import Derived.Test.YtfcjliiemiahkaaChecked
import GoSem.Claim
import GoSem.ClaimJoined
import GoSem.ClaimMapViews
import Derived.JoinedTies
import Derived.KernelRfl
namespace Go.Proofs.Ytfcjliiemiahkaa
/- THE CELL 'sum', in the pinned program and in every row, IS THE sha256 OF THE DUMP (.gsa) THAT YtfcjliiemiahkaaProg.lean LOADS. Nothing in Lean hashes anything: it is a label: what it is worth is what the hold of that sum in a sandbox is worth. -/
noncomputable def Try.pinned : Pinned := { name := "ytfcjliiemiahkaa", sum := "72ea00a3c25d20d3e1c35e5e9192722232111ae12277c09f1f1cd43d279b0dc9", checked := Try.checked }
namespace Rows
def none {H : Type} : Left H := { results := [], args := [] }

/-- 'indenturelaw04.SrcPlaces': WHATEVER THE INPUT: true; the input reads as it did. -/
def srcPlacesSpec : ChangeSpec := { name := "srcPlaces", fn := fun _ => fun
  | [d1, d2, d3, d4] => { results := [.lit (.bool true)], args := [d1, d2, d3, d4] }
  | _ => none }
def srcPlacesRow : OpenClaim := { program := "ytfcjliiemiahkaa", sum := "72ea00a3c25d20d3e1c35e5e9192722232111ae12277c09f1f1cd43d279b0dc9", func := "indenture/indenturelaw04.SrcPlaces", spec := "srcPlaces", inPlace := ["internal/bytealg.CountString", "internal/bytealg.IndexByteString", "internal/bytealg.IndexString"], named := ["internal/bytealg.MaxLen"], apart := false }
def SrcPlacesSaid : Prop := srcPlacesRow.holds Try.pinned (OpenSpec.ofChange srcPlacesSpec)

/-- ITS FALSE NEIGHBOUR: 'it returns false'. Refute it at one input. -/
def srcPlacesWrong : ChangeSpec := { name := "srcPlaces", fn := fun _ => fun
  | [d1, d2, d3, d4] => { results := [.lit (.bool false)], args := [d1, d2, d3, d4] }
  | _ => none }
def SrcPlacesWrongFalsely : Prop := srcPlacesRow.holds Try.pinned (OpenSpec.ofChange srcPlacesWrong)

/-- 'indenturelaw04.SrcSpoilt': WHATEVER THE INPUT: true; the input reads as it did. -/
def srcSpoiltSpec : ChangeSpec := { name := "srcSpoilt", fn := fun _ => fun
  | [d] => { results := [.lit (.bool true)], args := [d] }
  | _ => none }
def srcSpoiltRow : OpenClaim := { program := "ytfcjliiemiahkaa", sum := "72ea00a3c25d20d3e1c35e5e9192722232111ae12277c09f1f1cd43d279b0dc9", func := "indenture/indenturelaw04.SrcSpoilt", spec := "srcSpoilt", inPlace := ["internal/bytealg.CountString", "internal/bytealg.IndexByteString", "internal/bytealg.IndexString"], named := ["internal/bytealg.MaxLen"], apart := false }
def SrcSpoiltSaid : Prop := srcSpoiltRow.holds Try.pinned (OpenSpec.ofChange srcSpoiltSpec)

/-- ITS FALSE NEIGHBOUR: 'it returns false'. Refute it at one input. -/
def srcSpoiltWrong : ChangeSpec := { name := "srcSpoilt", fn := fun _ => fun
  | [d] => { results := [.lit (.bool false)], args := [d] }
  | _ => none }
def SrcSpoiltWrongFalsely : Prop := srcSpoiltRow.holds Try.pinned (OpenSpec.ofChange srcSpoiltWrong)

/-- 'indenturelaw04.SrcCuts': WHATEVER THE INPUT: true; the input reads as it did. -/
def srcCutsSpec : ChangeSpec := { name := "srcCuts", fn := fun _ => fun
  | [d1, d2, d3, d4] => { results := [.lit (.bool true)], args := [d1, d2, d3, d4] }
  | _ => none }
def srcCutsRow : OpenClaim := { program := "ytfcjliiemiahkaa", sum := "72ea00a3c25d20d3e1c35e5e9192722232111ae12277c09f1f1cd43d279b0dc9", func := "indenture/indenturelaw04.SrcCuts", spec := "srcCuts", inPlace := ["internal/bytealg.CountString", "internal/bytealg.IndexByteString", "internal/bytealg.IndexString"], named := ["internal/bytealg.MaxLen"], apart := false }
def SrcCutsSaid : Prop := srcCutsRow.holds Try.pinned (OpenSpec.ofChange srcCutsSpec)

/-- ITS FALSE NEIGHBOUR: 'it returns false'. Refute it at one input. -/
def srcCutsWrong : ChangeSpec := { name := "srcCuts", fn := fun _ => fun
  | [d1, d2, d3, d4] => { results := [.lit (.bool false)], args := [d1, d2, d3, d4] }
  | _ => none }
def SrcCutsWrongFalsely : Prop := srcCutsRow.holds Try.pinned (OpenSpec.ofChange srcCutsWrong)

/- THE SECOND FORM. 'bulk': how many values and letters a reading holds, each counted each time it is reached (what is shared counts as often as it is met; a slice's spare places count too). A statement '..UptoSaid' is the law's where the arguments, and the package variables that the reading takes, are together of bulk at most 1048576: NARROWER than '..Said'. Prove '..Said' where nothing that the law and all that it calls make is longer than what came in: it says more and counts as full. Else prove '..UptoSaid'. A law counts once. -/
mutual
def uptoBulk {H : Type} : DataW H → Nat
  | .lit (.string bytes) => bytes.length + 1
  | .lit _ => 1
  | .nil => 1
  | .ptr d => uptoBulk d + 1
  | .slice elems spare => uptoBulkAll elems + uptoBulkAll spare + 1
  | .agg parts => uptoBulkAll parts + 1
  | .iface _ d => uptoBulk d + 1
  | .map entries => uptoBulkEntries entries + 1
  | .held _ => 1
def uptoBulkAll {H : Type} : List (DataW H) → Nat
  | [] => 0
  | d :: r => uptoBulk d + uptoBulkAll r
def uptoBulkEntries {H : Type} : List (Lit × DataW H) → Nat
  | [] => 0
  | x :: r => uptoBulkEntry x + uptoBulkEntries r
def uptoBulkEntry {H : Type} : Lit × DataW H → Nat
  | (.string bytes, d) => bytes.length + uptoBulk d + 1
  | (_, d) => uptoBulk d + 1
 end
def uptoSmall : (H : Type) → List (DataW H) → Bool := fun _ ds => decide (uptoBulkAll ds ≤ 1048576)
def OpenSpec.upto (s : _root_.Go.ChangeSpec) : _root_.Go.OpenSpec := { _root_.Go.OpenSpec.ofChange s with cond := some uptoSmall }

/-- 'indenturelaw04.SrcPlaces', WHERE WHAT IT READS IS OF BULK AT MOST 1048576: true; the input reads as it did. -/
def srcPlacesUptoRow : OpenClaim := { program := "ytfcjliiemiahkaa", sum := "72ea00a3c25d20d3e1c35e5e9192722232111ae12277c09f1f1cd43d279b0dc9", func := "indenture/indenturelaw04.SrcPlaces", spec := "srcPlaces", inPlace := ["internal/bytealg.CountString", "internal/bytealg.IndexByteString", "internal/bytealg.IndexString"], named := ["internal/bytealg.MaxLen"], apart := false, narrowed := true }
def SrcPlacesUptoSaid : Prop := srcPlacesUptoRow.holds Try.pinned (OpenSpec.upto srcPlacesSpec)

/-- 'indenturelaw04.SrcSpoilt', WHERE WHAT IT READS IS OF BULK AT MOST 1048576: true; the input reads as it did. -/
def srcSpoiltUptoRow : OpenClaim := { program := "ytfcjliiemiahkaa", sum := "72ea00a3c25d20d3e1c35e5e9192722232111ae12277c09f1f1cd43d279b0dc9", func := "indenture/indenturelaw04.SrcSpoilt", spec := "srcSpoilt", inPlace := ["internal/bytealg.CountString", "internal/bytealg.IndexByteString", "internal/bytealg.IndexString"], named := ["internal/bytealg.MaxLen"], apart := false, narrowed := true }
def SrcSpoiltUptoSaid : Prop := srcSpoiltUptoRow.holds Try.pinned (OpenSpec.upto srcSpoiltSpec)

/-- 'indenturelaw04.SrcCuts', WHERE WHAT IT READS IS OF BULK AT MOST 1048576: true; the input reads as it did. -/
def srcCutsUptoRow : OpenClaim := { program := "ytfcjliiemiahkaa", sum := "72ea00a3c25d20d3e1c35e5e9192722232111ae12277c09f1f1cd43d279b0dc9", func := "indenture/indenturelaw04.SrcCuts", spec := "srcCuts", inPlace := ["internal/bytealg.CountString", "internal/bytealg.IndexByteString", "internal/bytealg.IndexString"], named := ["internal/bytealg.MaxLen"], apart := false, narrowed := true }
def SrcCutsUptoSaid : Prop := srcCutsUptoRow.holds Try.pinned (OpenSpec.upto srcCutsSpec)

end Rows
end Go.Proofs.Ytfcjliiemiahkaa
