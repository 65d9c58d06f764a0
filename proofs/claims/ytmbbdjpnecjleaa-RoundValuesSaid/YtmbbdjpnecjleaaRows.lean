/-
  No cell of these rows narrows 'for every input' (looked for: loops, veiled, ifaces, maps, wideKeys, modest, calm, conditions, laid).
  DERIVED. THE GIVEN ROWS OF THIS SEAT. 8 by the template 'for every input the law returns true; each argument reads behind the call as it read before'; 0 by the template 'total and deterministic' (their statements: YtmbbdjpnecjleaaTotals.lean).
  GIVEN WITH THE SEED: the statements are not yours to turn. If you find one false, say at which input.
  Laid BY PROGRAM, IN A SANDBOX (cutbox-rows.mjs): the forced cells as the released guide's own fill.sh prints them over the translation b47d69830cd4539c… (all of the seat's roots in one cut). By AI agents, Wed Nov 11 2026. No macro, syntax, notation, axiom, sorry.
-/
import Derived.Test.YtmbbdjpnecjleaaChecked
import GoSem.Claim
import GoSem.ClaimJoined
import GoSem.ClaimMapViews
import Derived.JoinedTies
import Derived.KernelRfl
namespace Go.Proofs.Ytmbbdjpnecjleaa
/- THE CELL 'sum', in the pinned program and in every row, IS THE sha256 OF THE DUMP (.gsa) THAT YtmbbdjpnecjleaaProg.lean LOADS. Nothing in Lean hashes anything: it is a label: what it is worth is what the hold of that sum in a sandbox is worth. -/
noncomputable def Try.pinned : Pinned := { name := "ytmbbdjpnecjleaa", sum := "b47d69830cd4539cc45002ef42ac48e9f2172ddd65f0fe336b4e2119c9b8b5ae", checked := Try.checked }
namespace Rows
def none {H : Type} : Left H := { results := [], args := [] }

/-- 'indenturelaw03.RoundNearest': WHATEVER THE INPUT: true; the input reads as it did. -/
def roundNearestSpec : ChangeSpec := { name := "roundNearest", fn := fun _ => fun
  | [d1, d2] => { results := [.lit (.bool true)], args := [d1, d2] }
  | _ => none }
def roundNearestRow : OpenClaim := { program := "ytmbbdjpnecjleaa", sum := "b47d69830cd4539cc45002ef42ac48e9f2172ddd65f0fe336b4e2119c9b8b5ae", func := "indenture/indenturelaw03.RoundNearest", spec := "roundNearest", apart := false }
def RoundNearestSaid : Prop := roundNearestRow.holds Try.pinned (OpenSpec.ofChange roundNearestSpec)

/-- ITS FALSE NEIGHBOUR: 'it returns false'. Refute it at one input. -/
def roundNearestWrong : ChangeSpec := { name := "roundNearest", fn := fun _ => fun
  | [d1, d2] => { results := [.lit (.bool false)], args := [d1, d2] }
  | _ => none }
def RoundNearestWrongFalsely : Prop := roundNearestRow.holds Try.pinned (OpenSpec.ofChange roundNearestWrong)

/-- 'indenturelaw02.RatMakes': WHATEVER THE INPUT: true; the input reads as it did. -/
def ratMakesSpec : ChangeSpec := { name := "ratMakes", fn := fun _ => fun
  | [d1, d2, d3] => { results := [.lit (.bool true)], args := [d1, d2, d3] }
  | _ => none }
def ratMakesRow : OpenClaim := { program := "ytmbbdjpnecjleaa", sum := "b47d69830cd4539cc45002ef42ac48e9f2172ddd65f0fe336b4e2119c9b8b5ae", func := "indenture/indenturelaw02.RatMakes", spec := "ratMakes", apart := false }
def RatMakesSaid : Prop := ratMakesRow.holds Try.pinned (OpenSpec.ofChange ratMakesSpec)

/-- ITS FALSE NEIGHBOUR: 'it returns false'. Refute it at one input. -/
def ratMakesWrong : ChangeSpec := { name := "ratMakes", fn := fun _ => fun
  | [d1, d2, d3] => { results := [.lit (.bool false)], args := [d1, d2, d3] }
  | _ => none }
def RatMakesWrongFalsely : Prop := ratMakesRow.holds Try.pinned (OpenSpec.ofChange ratMakesWrong)

/-- 'indenturelaw02.RatReckons': WHATEVER THE INPUT: true; the input reads as it did. -/
def ratReckonsSpec : ChangeSpec := { name := "ratReckons", fn := fun _ => fun
  | [d1, d2] => { results := [.lit (.bool true)], args := [d1, d2] }
  | _ => none }
def ratReckonsRow : OpenClaim := { program := "ytmbbdjpnecjleaa", sum := "b47d69830cd4539cc45002ef42ac48e9f2172ddd65f0fe336b4e2119c9b8b5ae", func := "indenture/indenturelaw02.RatReckons", spec := "ratReckons", apart := false }
def RatReckonsSaid : Prop := ratReckonsRow.holds Try.pinned (OpenSpec.ofChange ratReckonsSpec)

/-- ITS FALSE NEIGHBOUR: 'it returns false'. Refute it at one input. -/
def ratReckonsWrong : ChangeSpec := { name := "ratReckons", fn := fun _ => fun
  | [d1, d2] => { results := [.lit (.bool false)], args := [d1, d2] }
  | _ => none }
def RatReckonsWrongFalsely : Prop := ratReckonsRow.holds Try.pinned (OpenSpec.ofChange ratReckonsWrong)

/-- 'indenturelaw02.RatOrders': WHATEVER THE INPUT: true; the input reads as it did. -/
def ratOrdersSpec : ChangeSpec := { name := "ratOrders", fn := fun _ => fun
  | [d1, d2] => { results := [.lit (.bool true)], args := [d1, d2] }
  | _ => none }
def ratOrdersRow : OpenClaim := { program := "ytmbbdjpnecjleaa", sum := "b47d69830cd4539cc45002ef42ac48e9f2172ddd65f0fe336b4e2119c9b8b5ae", func := "indenture/indenturelaw02.RatOrders", spec := "ratOrders", apart := false }
def RatOrdersSaid : Prop := ratOrdersRow.holds Try.pinned (OpenSpec.ofChange ratOrdersSpec)

/-- ITS FALSE NEIGHBOUR: 'it returns false'. Refute it at one input. -/
def ratOrdersWrong : ChangeSpec := { name := "ratOrders", fn := fun _ => fun
  | [d1, d2] => { results := [.lit (.bool false)], args := [d1, d2] }
  | _ => none }
def RatOrdersWrongFalsely : Prop := ratOrdersRow.holds Try.pinned (OpenSpec.ofChange ratOrdersWrong)

/-- 'indenturelaw03.RoundOrders': WHATEVER THE INPUT: true; the input reads as it did. -/
def roundOrdersSpec : ChangeSpec := { name := "roundOrders", fn := fun _ => fun
  | [d1, d2, d3] => { results := [.lit (.bool true)], args := [d1, d2, d3] }
  | _ => none }
def roundOrdersRow : OpenClaim := { program := "ytmbbdjpnecjleaa", sum := "b47d69830cd4539cc45002ef42ac48e9f2172ddd65f0fe336b4e2119c9b8b5ae", func := "indenture/indenturelaw03.RoundOrders", spec := "roundOrders", apart := false }
def RoundOrdersSaid : Prop := roundOrdersRow.holds Try.pinned (OpenSpec.ofChange roundOrdersSpec)

/-- ITS FALSE NEIGHBOUR: 'it returns false'. Refute it at one input. -/
def roundOrdersWrong : ChangeSpec := { name := "roundOrders", fn := fun _ => fun
  | [d1, d2, d3] => { results := [.lit (.bool false)], args := [d1, d2, d3] }
  | _ => none }
def RoundOrdersWrongFalsely : Prop := roundOrdersRow.holds Try.pinned (OpenSpec.ofChange roundOrdersWrong)

/-- 'indenturelaw02.RatBack': WHATEVER THE INPUT: true; the input reads as it did. -/
def ratBackSpec : ChangeSpec := { name := "ratBack", fn := fun _ => fun
  | [d1, d2] => { results := [.lit (.bool true)], args := [d1, d2] }
  | _ => none }
def ratBackRow : OpenClaim := { program := "ytmbbdjpnecjleaa", sum := "b47d69830cd4539cc45002ef42ac48e9f2172ddd65f0fe336b4e2119c9b8b5ae", func := "indenture/indenturelaw02.RatBack", spec := "ratBack", apart := false }
def RatBackSaid : Prop := ratBackRow.holds Try.pinned (OpenSpec.ofChange ratBackSpec)

/-- ITS FALSE NEIGHBOUR: 'it returns false'. Refute it at one input. -/
def ratBackWrong : ChangeSpec := { name := "ratBack", fn := fun _ => fun
  | [d1, d2] => { results := [.lit (.bool false)], args := [d1, d2] }
  | _ => none }
def RatBackWrongFalsely : Prop := ratBackRow.holds Try.pinned (OpenSpec.ofChange ratBackWrong)

/-- 'indenturelaw03.RoundValues': WHATEVER THE INPUT: true; the input reads as it did. -/
def roundValuesSpec : ChangeSpec := { name := "roundValues", fn := fun _ => fun
  | [d1, d2] => { results := [.lit (.bool true)], args := [d1, d2] }
  | _ => none }
def roundValuesRow : OpenClaim := { program := "ytmbbdjpnecjleaa", sum := "b47d69830cd4539cc45002ef42ac48e9f2172ddd65f0fe336b4e2119c9b8b5ae", func := "indenture/indenturelaw03.RoundValues", spec := "roundValues", apart := false }
def RoundValuesSaid : Prop := roundValuesRow.holds Try.pinned (OpenSpec.ofChange roundValuesSpec)

/-- ITS FALSE NEIGHBOUR: 'it returns false'. Refute it at one input. -/
def roundValuesWrong : ChangeSpec := { name := "roundValues", fn := fun _ => fun
  | [d1, d2] => { results := [.lit (.bool false)], args := [d1, d2] }
  | _ => none }
def RoundValuesWrongFalsely : Prop := roundValuesRow.holds Try.pinned (OpenSpec.ofChange roundValuesWrong)

/-- 'indenturelaw03.RoundBack': WHATEVER THE INPUT: true; the input reads as it did. -/
def roundBackSpec : ChangeSpec := { name := "roundBack", fn := fun _ => fun
  | [d1, d2, d3] => { results := [.lit (.bool true)], args := [d1, d2, d3] }
  | _ => none }
def roundBackRow : OpenClaim := { program := "ytmbbdjpnecjleaa", sum := "b47d69830cd4539cc45002ef42ac48e9f2172ddd65f0fe336b4e2119c9b8b5ae", func := "indenture/indenturelaw03.RoundBack", spec := "roundBack", apart := false }
def RoundBackSaid : Prop := roundBackRow.holds Try.pinned (OpenSpec.ofChange roundBackSpec)

/-- ITS FALSE NEIGHBOUR: 'it returns false'. Refute it at one input. -/
def roundBackWrong : ChangeSpec := { name := "roundBack", fn := fun _ => fun
  | [d1, d2, d3] => { results := [.lit (.bool false)], args := [d1, d2, d3] }
  | _ => none }
def RoundBackWrongFalsely : Prop := roundBackRow.holds Try.pinned (OpenSpec.ofChange roundBackWrong)

/- THE SECOND FORM. 'bulk': how many values and letters a reading holds, each counted each time it is reached (what is shared counts as often as it is met; a slice's spare places count too). A statement '..UptoSaid' is the law's where the arguments, and the package variables that the reading takes, are together of bulk at most 1048576: NARROWER than '..Said'. Prove '..Said' where nothing that the law and all that it calls make is longer than what came in: it says more and counts as full. Else prove '..UptoSaid'. A law counts once. -/
mutual
def uptoBulk {H : Type} : DataW H → Nat
  | .lit (.string bytes) => bytes.length + 1
  | .lit _ => 1
  | .nil => 1
  | .ptr d => uptoBulk d + 1
  | .slice elems spare => uptoBulkAll elems + uptoBulkAll spare + 1
  | .agg parts => uptoBulkAll parts + 1
  | .iface _ d => uptoBulk d + 1
  | .map entries => uptoBulkEntries entries + 1
  | .held _ => 1
def uptoBulkAll {H : Type} : List (DataW H) → Nat
  | [] => 0
  | d :: r => uptoBulk d + uptoBulkAll r
def uptoBulkEntries {H : Type} : List (Lit × DataW H) → Nat
  | [] => 0
  | x :: r => uptoBulkEntry x + uptoBulkEntries r
def uptoBulkEntry {H : Type} : Lit × DataW H → Nat
  | (.string bytes, d) => bytes.length + uptoBulk d + 1
  | (_, d) => uptoBulk d + 1
 end
def uptoSmall : (H : Type) → List (DataW H) → Bool := fun _ ds => decide (uptoBulkAll ds ≤ 1048576)
def OpenSpec.upto (s : _root_.Go.ChangeSpec) : _root_.Go.OpenSpec := { _root_.Go.OpenSpec.ofChange s with cond := some uptoSmall }

/-- 'indenturelaw03.RoundNearest', WHERE WHAT IT READS IS OF BULK AT MOST 1048576: true; the input reads as it did. -/
def roundNearestUptoRow : OpenClaim := { program := "ytmbbdjpnecjleaa", sum := "b47d69830cd4539cc45002ef42ac48e9f2172ddd65f0fe336b4e2119c9b8b5ae", func := "indenture/indenturelaw03.RoundNearest", spec := "roundNearest", apart := false, narrowed := true }
def RoundNearestUptoSaid : Prop := roundNearestUptoRow.holds Try.pinned (OpenSpec.upto roundNearestSpec)

/-- 'indenturelaw02.RatMakes', WHERE WHAT IT READS IS OF BULK AT MOST 1048576: true; the input reads as it did. -/
def ratMakesUptoRow : OpenClaim := { program := "ytmbbdjpnecjleaa", sum := "b47d69830cd4539cc45002ef42ac48e9f2172ddd65f0fe336b4e2119c9b8b5ae", func := "indenture/indenturelaw02.RatMakes", spec := "ratMakes", apart := false, narrowed := true }
def RatMakesUptoSaid : Prop := ratMakesUptoRow.holds Try.pinned (OpenSpec.upto ratMakesSpec)

/-- 'indenturelaw02.RatReckons', WHERE WHAT IT READS IS OF BULK AT MOST 1048576: true; the input reads as it did. -/
def ratReckonsUptoRow : OpenClaim := { program := "ytmbbdjpnecjleaa", sum := "b47d69830cd4539cc45002ef42ac48e9f2172ddd65f0fe336b4e2119c9b8b5ae", func := "indenture/indenturelaw02.RatReckons", spec := "ratReckons", apart := false, narrowed := true }
def RatReckonsUptoSaid : Prop := ratReckonsUptoRow.holds Try.pinned (OpenSpec.upto ratReckonsSpec)

/-- 'indenturelaw02.RatOrders', WHERE WHAT IT READS IS OF BULK AT MOST 1048576: true; the input reads as it did. -/
def ratOrdersUptoRow : OpenClaim := { program := "ytmbbdjpnecjleaa", sum := "b47d69830cd4539cc45002ef42ac48e9f2172ddd65f0fe336b4e2119c9b8b5ae", func := "indenture/indenturelaw02.RatOrders", spec := "ratOrders", apart := false, narrowed := true }
def RatOrdersUptoSaid : Prop := ratOrdersUptoRow.holds Try.pinned (OpenSpec.upto ratOrdersSpec)

/-- 'indenturelaw03.RoundOrders', WHERE WHAT IT READS IS OF BULK AT MOST 1048576: true; the input reads as it did. -/
def roundOrdersUptoRow : OpenClaim := { program := "ytmbbdjpnecjleaa", sum := "b47d69830cd4539cc45002ef42ac48e9f2172ddd65f0fe336b4e2119c9b8b5ae", func := "indenture/indenturelaw03.RoundOrders", spec := "roundOrders", apart := false, narrowed := true }
def RoundOrdersUptoSaid : Prop := roundOrdersUptoRow.holds Try.pinned (OpenSpec.upto roundOrdersSpec)

/-- 'indenturelaw02.RatBack', WHERE WHAT IT READS IS OF BULK AT MOST 1048576: true; the input reads as it did. -/
def ratBackUptoRow : OpenClaim := { program := "ytmbbdjpnecjleaa", sum := "b47d69830cd4539cc45002ef42ac48e9f2172ddd65f0fe336b4e2119c9b8b5ae", func := "indenture/indenturelaw02.RatBack", spec := "ratBack", apart := false, narrowed := true }
def RatBackUptoSaid : Prop := ratBackUptoRow.holds Try.pinned (OpenSpec.upto ratBackSpec)

/-- 'indenturelaw03.RoundValues', WHERE WHAT IT READS IS OF BULK AT MOST 1048576: true; the input reads as it did. -/
def roundValuesUptoRow : OpenClaim := { program := "ytmbbdjpnecjleaa", sum := "b47d69830cd4539cc45002ef42ac48e9f2172ddd65f0fe336b4e2119c9b8b5ae", func := "indenture/indenturelaw03.RoundValues", spec := "roundValues", apart := false, narrowed := true }
def RoundValuesUptoSaid : Prop := roundValuesUptoRow.holds Try.pinned (OpenSpec.upto roundValuesSpec)

/-- 'indenturelaw03.RoundBack', WHERE WHAT IT READS IS OF BULK AT MOST 1048576: true; the input reads as it did. -/
def roundBackUptoRow : OpenClaim := { program := "ytmbbdjpnecjleaa", sum := "b47d69830cd4539cc45002ef42ac48e9f2172ddd65f0fe336b4e2119c9b8b5ae", func := "indenture/indenturelaw03.RoundBack", spec := "roundBack", apart := false, narrowed := true }
def RoundBackUptoSaid : Prop := roundBackUptoRow.holds Try.pinned (OpenSpec.upto roundBackSpec)

end Rows
end Go.Proofs.Ytmbbdjpnecjleaa
