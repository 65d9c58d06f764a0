/-
  NARROWER THAN 'FOR EVERY INPUT', by the rows' own cells (each row's printed sentence says how): NatTexts: laid · NatParts: laid · NatBack: laid · NatSums: laid · NatShifts: laid.
  DERIVED. THE GIVEN ROWS OF THIS SEAT. 5 by the template 'for every input the law returns true; each argument reads behind the call as it read before'; 0 by the template 'total and deterministic' (their statements: YtmbbdjpnecjleaaDoorTotals.lean).
  GIVEN WITH THE SEED: the statements are not yours to turn. If you find one false, say at which input.
  Laid BY PROGRAM, IN A SANDBOX (cutbox-rows.mjs): the forced cells as the released guide's own fill.sh prints them over the translation 79e2cd4ba13ac0f9… (all of the seat's roots in one cut). By AI agents, Wed Nov 11 2026. No macro, syntax, notation, axiom, sorry.
-/
import Derived.Test.YtmbbdjpnecjleaaDoorChecked
import GoSem.Claim
import GoSem.ClaimJoined
import GoSem.ClaimMapViews
import Derived.JoinedTies
import Derived.KernelRfl
namespace Go.Proofs.YtmbbdjpnecjleaaDoor
/- THE CELL 'sum', in the pinned program and in every row, IS THE sha256 OF THE DUMP (.gsa) THAT YtmbbdjpnecjleaaDoorProg.lean LOADS. Nothing in Lean hashes anything: it is a label: what it is worth is what the hold of that sum in a sandbox is worth. -/
noncomputable def Tryd.pinned : Pinned := { name := "ytmbbdjpnecjleaadoor", sum := "79e2cd4ba13ac0f9ae1a60a7835d2b2975c4e4219b0ce533ca395e4ae96f3966", checked := Tryd.checked }
namespace Rows
def none {H : Type} : Left H := { results := [], args := [] }

/- WHAT THE LISTED PACKAGE-LEVEL VARIABLES READ AS WHEN THE CALL BEGINS. Each datum BY PROGRAM (the guide's laid-datum.mjs) off the statement by which the dump's own 'gosem.cut.vars' lays the variable. In a bare row this is a premise. The card (YtmbbdjpnecjleaaDoorCards.lean) ties it to the program's text. -/
def laid_indenture_nat_bases {H : Type} : DataW H := .agg [.lit (.int .i64 2), .lit (.int .i64 8), .lit (.int .i64 10), .lit (.int .i64 16)]

/-- 'indenturelaw01.NatTexts': WHATEVER THE INPUT: true; the input reads as it did. -/
def natTextsSpec : ChangeSpec := { name := "natTexts", fn := fun _ => fun
  | [d1, d2, d3, d4] => { results := [.lit (.bool true)], args := [d1, d2, d3, d4] }
  | _ => none }
def natTextsRow : OpenClaim := { program := "ytmbbdjpnecjleaadoor", sum := "79e2cd4ba13ac0f9ae1a60a7835d2b2975c4e4219b0ce533ca395e4ae96f3966", func := "indenture/indenturelaw01.NatTexts", spec := "natTexts", unfollowed := true, recurses := true, named := ["indenture/nat.bases"], apart := false, laid := [("indenture/nat.bases", laid_indenture_nat_bases)] }
def NatTextsSaid : Prop := natTextsRow.holds Tryd.pinned (OpenSpec.ofChange natTextsSpec)

/-- ITS FALSE NEIGHBOUR: 'it returns false'. Refute it at one input. -/
def natTextsWrong : ChangeSpec := { name := "natTexts", fn := fun _ => fun
  | [d1, d2, d3, d4] => { results := [.lit (.bool false)], args := [d1, d2, d3, d4] }
  | _ => none }
def NatTextsWrongFalsely : Prop := natTextsRow.holds Tryd.pinned (OpenSpec.ofChange natTextsWrong)

/-- 'indenturelaw01.NatParts': WHATEVER THE INPUT: true; the input reads as it did. -/
def natPartsSpec : ChangeSpec := { name := "natParts", fn := fun _ => fun
  | [d1, d2, d3] => { results := [.lit (.bool true)], args := [d1, d2, d3] }
  | _ => none }
def natPartsRow : OpenClaim := { program := "ytmbbdjpnecjleaadoor", sum := "79e2cd4ba13ac0f9ae1a60a7835d2b2975c4e4219b0ce533ca395e4ae96f3966", func := "indenture/indenturelaw01.NatParts", spec := "natParts", unfollowed := true, recurses := true, named := ["indenture/nat.bases"], apart := false, laid := [("indenture/nat.bases", laid_indenture_nat_bases)] }
def NatPartsSaid : Prop := natPartsRow.holds Tryd.pinned (OpenSpec.ofChange natPartsSpec)

/-- ITS FALSE NEIGHBOUR: 'it returns false'. Refute it at one input. -/
def natPartsWrong : ChangeSpec := { name := "natParts", fn := fun _ => fun
  | [d1, d2, d3] => { results := [.lit (.bool false)], args := [d1, d2, d3] }
  | _ => none }
def NatPartsWrongFalsely : Prop := natPartsRow.holds Tryd.pinned (OpenSpec.ofChange natPartsWrong)

/-- 'indenturelaw01.NatBack': WHATEVER THE INPUT: true; the input reads as it did. -/
def natBackSpec : ChangeSpec := { name := "natBack", fn := fun _ => fun
  | [d1, d2] => { results := [.lit (.bool true)], args := [d1, d2] }
  | _ => none }
def natBackRow : OpenClaim := { program := "ytmbbdjpnecjleaadoor", sum := "79e2cd4ba13ac0f9ae1a60a7835d2b2975c4e4219b0ce533ca395e4ae96f3966", func := "indenture/indenturelaw01.NatBack", spec := "natBack", unfollowed := true, recurses := true, named := ["indenture/nat.bases"], apart := false, laid := [("indenture/nat.bases", laid_indenture_nat_bases)] }
def NatBackSaid : Prop := natBackRow.holds Tryd.pinned (OpenSpec.ofChange natBackSpec)

/-- ITS FALSE NEIGHBOUR: 'it returns false'. Refute it at one input. -/
def natBackWrong : ChangeSpec := { name := "natBack", fn := fun _ => fun
  | [d1, d2] => { results := [.lit (.bool false)], args := [d1, d2] }
  | _ => none }
def NatBackWrongFalsely : Prop := natBackRow.holds Tryd.pinned (OpenSpec.ofChange natBackWrong)

/-- 'indenturelaw01.NatSums': WHATEVER THE INPUT: true; the input reads as it did. -/
def natSumsSpec : ChangeSpec := { name := "natSums", fn := fun _ => fun
  | [d1, d2] => { results := [.lit (.bool true)], args := [d1, d2] }
  | _ => none }
def natSumsRow : OpenClaim := { program := "ytmbbdjpnecjleaadoor", sum := "79e2cd4ba13ac0f9ae1a60a7835d2b2975c4e4219b0ce533ca395e4ae96f3966", func := "indenture/indenturelaw01.NatSums", spec := "natSums", unfollowed := true, recurses := true, named := ["indenture/nat.bases"], apart := false, laid := [("indenture/nat.bases", laid_indenture_nat_bases)] }
def NatSumsSaid : Prop := natSumsRow.holds Tryd.pinned (OpenSpec.ofChange natSumsSpec)

/-- ITS FALSE NEIGHBOUR: 'it returns false'. Refute it at one input. -/
def natSumsWrong : ChangeSpec := { name := "natSums", fn := fun _ => fun
  | [d1, d2] => { results := [.lit (.bool false)], args := [d1, d2] }
  | _ => none }
def NatSumsWrongFalsely : Prop := natSumsRow.holds Tryd.pinned (OpenSpec.ofChange natSumsWrong)

/-- 'indenturelaw01.NatShifts': WHATEVER THE INPUT: true; the input reads as it did. -/
def natShiftsSpec : ChangeSpec := { name := "natShifts", fn := fun _ => fun
  | [d1, d2] => { results := [.lit (.bool true)], args := [d1, d2] }
  | _ => none }
def natShiftsRow : OpenClaim := { program := "ytmbbdjpnecjleaadoor", sum := "79e2cd4ba13ac0f9ae1a60a7835d2b2975c4e4219b0ce533ca395e4ae96f3966", func := "indenture/indenturelaw01.NatShifts", spec := "natShifts", unfollowed := true, recurses := true, named := ["indenture/nat.bases"], apart := false, laid := [("indenture/nat.bases", laid_indenture_nat_bases)] }
def NatShiftsSaid : Prop := natShiftsRow.holds Tryd.pinned (OpenSpec.ofChange natShiftsSpec)

/-- ITS FALSE NEIGHBOUR: 'it returns false'. Refute it at one input. -/
def natShiftsWrong : ChangeSpec := { name := "natShifts", fn := fun _ => fun
  | [d1, d2] => { results := [.lit (.bool false)], args := [d1, d2] }
  | _ => none }
def NatShiftsWrongFalsely : Prop := natShiftsRow.holds Tryd.pinned (OpenSpec.ofChange natShiftsWrong)

/- THE SECOND FORM. 'bulk': how many values and letters a reading holds, each counted each time it is reached (what is shared counts as often as it is met; a slice's spare places count too). A statement '..UptoSaid' is the law's where the arguments, and the package variables that the reading takes, are together of bulk at most 1048576: NARROWER than '..Said'. Prove '..Said' where nothing that the law and all that it calls make is longer than what came in: it says more and counts as full. Else prove '..UptoSaid'. A law counts once. -/
mutual
def uptoBulk {H : Type} : DataW H → Nat
  | .lit (.string bytes) => bytes.length + 1
  | .lit _ => 1
  | .nil => 1
  | .ptr d => uptoBulk d + 1
  | .slice elems spare => uptoBulkAll elems + uptoBulkAll spare + 1
  | .agg parts => uptoBulkAll parts + 1
  | .iface _ d => uptoBulk d + 1
  | .map entries => uptoBulkEntries entries + 1
  | .held _ => 1
def uptoBulkAll {H : Type} : List (DataW H) → Nat
  | [] => 0
  | d :: r => uptoBulk d + uptoBulkAll r
def uptoBulkEntries {H : Type} : List (Lit × DataW H) → Nat
  | [] => 0
  | x :: r => uptoBulkEntry x + uptoBulkEntries r
def uptoBulkEntry {H : Type} : Lit × DataW H → Nat
  | (.string bytes, d) => bytes.length + uptoBulk d + 1
  | (_, d) => uptoBulk d + 1
 end
def uptoSmall : (H : Type) → List (DataW H) → Bool := fun _ ds => decide (uptoBulkAll ds ≤ 1048576)
def OpenSpec.upto (s : _root_.Go.ChangeSpec) : _root_.Go.OpenSpec := { _root_.Go.OpenSpec.ofChange s with cond := some uptoSmall }

/-- 'indenturelaw01.NatTexts', WHERE WHAT IT READS IS OF BULK AT MOST 1048576: true; the input reads as it did. -/
def natTextsUptoRow : OpenClaim := { program := "ytmbbdjpnecjleaadoor", sum := "79e2cd4ba13ac0f9ae1a60a7835d2b2975c4e4219b0ce533ca395e4ae96f3966", func := "indenture/indenturelaw01.NatTexts", spec := "natTexts", unfollowed := true, recurses := true, named := ["indenture/nat.bases"], apart := false, laid := [("indenture/nat.bases", laid_indenture_nat_bases)], narrowed := true }
def NatTextsUptoSaid : Prop := natTextsUptoRow.holds Tryd.pinned (OpenSpec.upto natTextsSpec)

/-- 'indenturelaw01.NatParts', WHERE WHAT IT READS IS OF BULK AT MOST 1048576: true; the input reads as it did. -/
def natPartsUptoRow : OpenClaim := { program := "ytmbbdjpnecjleaadoor", sum := "79e2cd4ba13ac0f9ae1a60a7835d2b2975c4e4219b0ce533ca395e4ae96f3966", func := "indenture/indenturelaw01.NatParts", spec := "natParts", unfollowed := true, recurses := true, named := ["indenture/nat.bases"], apart := false, laid := [("indenture/nat.bases", laid_indenture_nat_bases)], narrowed := true }
def NatPartsUptoSaid : Prop := natPartsUptoRow.holds Tryd.pinned (OpenSpec.upto natPartsSpec)

/-- 'indenturelaw01.NatBack', WHERE WHAT IT READS IS OF BULK AT MOST 1048576: true; the input reads as it did. -/
def natBackUptoRow : OpenClaim := { program := "ytmbbdjpnecjleaadoor", sum := "79e2cd4ba13ac0f9ae1a60a7835d2b2975c4e4219b0ce533ca395e4ae96f3966", func := "indenture/indenturelaw01.NatBack", spec := "natBack", unfollowed := true, recurses := true, named := ["indenture/nat.bases"], apart := false, laid := [("indenture/nat.bases", laid_indenture_nat_bases)], narrowed := true }
def NatBackUptoSaid : Prop := natBackUptoRow.holds Tryd.pinned (OpenSpec.upto natBackSpec)

/-- 'indenturelaw01.NatSums', WHERE WHAT IT READS IS OF BULK AT MOST 1048576: true; the input reads as it did. -/
def natSumsUptoRow : OpenClaim := { program := "ytmbbdjpnecjleaadoor", sum := "79e2cd4ba13ac0f9ae1a60a7835d2b2975c4e4219b0ce533ca395e4ae96f3966", func := "indenture/indenturelaw01.NatSums", spec := "natSums", unfollowed := true, recurses := true, named := ["indenture/nat.bases"], apart := false, laid := [("indenture/nat.bases", laid_indenture_nat_bases)], narrowed := true }
def NatSumsUptoSaid : Prop := natSumsUptoRow.holds Tryd.pinned (OpenSpec.upto natSumsSpec)

/-- 'indenturelaw01.NatShifts', WHERE WHAT IT READS IS OF BULK AT MOST 1048576: true; the input reads as it did. -/
def natShiftsUptoRow : OpenClaim := { program := "ytmbbdjpnecjleaadoor", sum := "79e2cd4ba13ac0f9ae1a60a7835d2b2975c4e4219b0ce533ca395e4ae96f3966", func := "indenture/indenturelaw01.NatShifts", spec := "natShifts", unfollowed := true, recurses := true, named := ["indenture/nat.bases"], apart := false, laid := [("indenture/nat.bases", laid_indenture_nat_bases)], narrowed := true }
def NatShiftsUptoSaid : Prop := natShiftsUptoRow.holds Tryd.pinned (OpenSpec.upto natShiftsSpec)

end Rows
end Go.Proofs.YtmbbdjpnecjleaaDoor
