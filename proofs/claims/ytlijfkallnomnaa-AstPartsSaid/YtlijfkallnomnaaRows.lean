/-
  No cell of these rows narrows 'for every input' (looked for: loops, veiled, ifaces, maps, wideKeys, modest, calm, conditions, laid).
  DERIVED. THE GIVEN ROWS OF THIS SEAT. 3 by the template 'for every input the law returns true; each argument reads behind the call as it read before'; 0 by the template 'total and deterministic' (their statements: YtlijfkallnomnaaTotals.lean).
  GIVEN WITH THE SEED: the statements are not yours to turn. If you find one false, say at which input.
  Laid BY PROGRAM, IN A SANDBOX (cutbox-rows.mjs): the forced cells as the released guide's own fill.sh prints them over the translation 7fd0326360cbb478… (all of the seat's roots in one cut). By AI agents, Wed Nov 11 2026. No macro, syntax, notation, axiom, sorry.
-/
import Derived.Test.YtlijfkallnomnaaChecked
import GoSem.Claim
import GoSem.ClaimJoined
import GoSem.ClaimMapViews
import Derived.JoinedTies
import Derived.KernelRfl
namespace Go.Proofs.Ytlijfkallnomnaa
/- THE CELL 'sum', in the pinned program and in every row, IS THE sha256 OF THE DUMP (.gsa) THAT YtlijfkallnomnaaProg.lean LOADS. Nothing in Lean hashes anything: it is a label: what it is worth is what the hold of that sum in a sandbox is worth. -/
noncomputable def Try.pinned : Pinned := { name := "ytlijfkallnomnaa", sum := "7fd0326360cbb478bad1c18f22c871f348e83f98feb298b52ef4427dfb79c645", checked := Try.checked }
namespace Rows
def none {H : Type} : Left H := { results := [], args := [] }

/-- 'indenturelaw07.AstRight': WHATEVER THE INPUT: true; the input reads as it did. -/
def astRightSpec : ChangeSpec := { name := "astRight", fn := fun _ => fun
  | [d1, d2] => { results := [.lit (.bool true)], args := [d1, d2] }
  | _ => none }
def astRightRow : OpenClaim := { program := "ytlijfkallnomnaa", sum := "7fd0326360cbb478bad1c18f22c871f348e83f98feb298b52ef4427dfb79c645", func := "indenture/indenturelaw07.AstRight", spec := "astRight", unfollowed := true, recurses := true, apart := false }
def AstRightSaid : Prop := astRightRow.holds Try.pinned (OpenSpec.ofChange astRightSpec)

/-- ITS FALSE NEIGHBOUR: 'it returns false'. Refute it at one input. -/
def astRightWrong : ChangeSpec := { name := "astRight", fn := fun _ => fun
  | [d1, d2] => { results := [.lit (.bool false)], args := [d1, d2] }
  | _ => none }
def AstRightWrongFalsely : Prop := astRightRow.holds Try.pinned (OpenSpec.ofChange astRightWrong)

/-- 'indenturelaw07.AstCuts': WHATEVER THE INPUT: true; the input reads as it did. -/
def astCutsSpec : ChangeSpec := { name := "astCuts", fn := fun _ => fun
  | [d1, d2] => { results := [.lit (.bool true)], args := [d1, d2] }
  | _ => none }
def astCutsRow : OpenClaim := { program := "ytlijfkallnomnaa", sum := "7fd0326360cbb478bad1c18f22c871f348e83f98feb298b52ef4427dfb79c645", func := "indenture/indenturelaw07.AstCuts", spec := "astCuts", unfollowed := true, recurses := true, apart := false }
def AstCutsSaid : Prop := astCutsRow.holds Try.pinned (OpenSpec.ofChange astCutsSpec)

/-- ITS FALSE NEIGHBOUR: 'it returns false'. Refute it at one input. -/
def astCutsWrong : ChangeSpec := { name := "astCuts", fn := fun _ => fun
  | [d1, d2] => { results := [.lit (.bool false)], args := [d1, d2] }
  | _ => none }
def AstCutsWrongFalsely : Prop := astCutsRow.holds Try.pinned (OpenSpec.ofChange astCutsWrong)

/-- 'indenturelaw07.AstParts': WHATEVER THE INPUT: true; the input reads as it did. -/
def astPartsSpec : ChangeSpec := { name := "astParts", fn := fun _ => fun
  | [d] => { results := [.lit (.bool true)], args := [d] }
  | _ => none }
def astPartsRow : OpenClaim := { program := "ytlijfkallnomnaa", sum := "7fd0326360cbb478bad1c18f22c871f348e83f98feb298b52ef4427dfb79c645", func := "indenture/indenturelaw07.AstParts", spec := "astParts", unfollowed := true, recurses := true, apart := false }
def AstPartsSaid : Prop := astPartsRow.holds Try.pinned (OpenSpec.ofChange astPartsSpec)

/-- ITS FALSE NEIGHBOUR: 'it returns false'. Refute it at one input. -/
def astPartsWrong : ChangeSpec := { name := "astParts", fn := fun _ => fun
  | [d] => { results := [.lit (.bool false)], args := [d] }
  | _ => none }
def AstPartsWrongFalsely : Prop := astPartsRow.holds Try.pinned (OpenSpec.ofChange astPartsWrong)

/- THE SECOND FORM. 'bulk': how many values and letters a reading holds, each counted each time it is reached (what is shared counts as often as it is met; a slice's spare places count too). A statement '..UptoSaid' is the law's where the arguments, and the package variables that the reading takes, are together of bulk at most 1048576: NARROWER than '..Said'. Prove '..Said' where nothing that the law and all that it calls make is longer than what came in: it says more and counts as full. Else prove '..UptoSaid'. A law counts once. -/
mutual
def uptoBulk {H : Type} : DataW H → Nat
  | .lit (.string bytes) => bytes.length + 1
  | .lit _ => 1
  | .nil => 1
  | .ptr d => uptoBulk d + 1
  | .slice elems spare => uptoBulkAll elems + uptoBulkAll spare + 1
  | .agg parts => uptoBulkAll parts + 1
  | .iface _ d => uptoBulk d + 1
  | .map entries => uptoBulkEntries entries + 1
  | .held _ => 1
def uptoBulkAll {H : Type} : List (DataW H) → Nat
  | [] => 0
  | d :: r => uptoBulk d + uptoBulkAll r
def uptoBulkEntries {H : Type} : List (Lit × DataW H) → Nat
  | [] => 0
  | x :: r => uptoBulkEntry x + uptoBulkEntries r
def uptoBulkEntry {H : Type} : Lit × DataW H → Nat
  | (.string bytes, d) => bytes.length + uptoBulk d + 1
  | (_, d) => uptoBulk d + 1
 end
def uptoSmall : (H : Type) → List (DataW H) → Bool := fun _ ds => decide (uptoBulkAll ds ≤ 1048576)
def OpenSpec.upto (s : _root_.Go.ChangeSpec) : _root_.Go.OpenSpec := { _root_.Go.OpenSpec.ofChange s with cond := some uptoSmall }

/-- 'indenturelaw07.AstRight', WHERE WHAT IT READS IS OF BULK AT MOST 1048576: true; the input reads as it did. -/
def astRightUptoRow : OpenClaim := { program := "ytlijfkallnomnaa", sum := "7fd0326360cbb478bad1c18f22c871f348e83f98feb298b52ef4427dfb79c645", func := "indenture/indenturelaw07.AstRight", spec := "astRight", unfollowed := true, recurses := true, apart := false, narrowed := true }
def AstRightUptoSaid : Prop := astRightUptoRow.holds Try.pinned (OpenSpec.upto astRightSpec)

/-- 'indenturelaw07.AstCuts', WHERE WHAT IT READS IS OF BULK AT MOST 1048576: true; the input reads as it did. -/
def astCutsUptoRow : OpenClaim := { program := "ytlijfkallnomnaa", sum := "7fd0326360cbb478bad1c18f22c871f348e83f98feb298b52ef4427dfb79c645", func := "indenture/indenturelaw07.AstCuts", spec := "astCuts", unfollowed := true, recurses := true, apart := false, narrowed := true }
def AstCutsUptoSaid : Prop := astCutsUptoRow.holds Try.pinned (OpenSpec.upto astCutsSpec)

/-- 'indenturelaw07.AstParts', WHERE WHAT IT READS IS OF BULK AT MOST 1048576: true; the input reads as it did. -/
def astPartsUptoRow : OpenClaim := { program := "ytlijfkallnomnaa", sum := "7fd0326360cbb478bad1c18f22c871f348e83f98feb298b52ef4427dfb79c645", func := "indenture/indenturelaw07.AstParts", spec := "astParts", unfollowed := true, recurses := true, apart := false, narrowed := true }
def AstPartsUptoSaid : Prop := astPartsUptoRow.holds Try.pinned (OpenSpec.upto astPartsSpec)

end Rows
end Go.Proofs.Ytlijfkallnomnaa
