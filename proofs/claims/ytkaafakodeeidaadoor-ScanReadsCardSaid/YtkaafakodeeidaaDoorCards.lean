/-
  DERIVED. GIVEN WITH THE SEED: THE CARDS: each row of YtkaafakodeeidaaDoorRows.lean that lists a variable, with what it lists TIED to the program's text (the seventh form; the later family's looks); each row that meets fmt, with fmt's text TOLD by the authors' own Lean function (tested against real Go, not proved from fmt's source: count such statements apart). THE CARD IS WHAT COUNTS. Prove the row's statement (the work); the ties are given (YtkaafakodeeidaaDoorTie.lean); close each card by the builder's one call (the guide's Derived/Test/ToyasCard.lean, 'card_holds'). Laid BY PROGRAM, IN A SANDBOX (cutbox-door.mjs). By AI agents, Wed Nov 11 2026. No macro, syntax, notation, axiom, sorry.
-/
import Derived.Test.YtkaafakodeeidaaDoorRows
import GoSem.ClaimSeven
namespace Go.Proofs.YtkaafakodeeidaaDoor
namespace Rows

/-- THE TIED CARD OF 'indenturelaw05.ScanReads'. -/
def scanReadsCard : Claim7 := { stood := { row := scanReadsRow, standIns := [], harness := (true, "a268b66a9b6e828711ce450e57f70d5c7f6f7e2a5490ba7822dabc6ef4f8743c"), looks := false }, kinds := [], alts := [], laidByText := true, laidKinds := [.widerDeep, .widerDeep], laidTests := true, laidLooks := .later }
def ScanReadsCardSaid : Prop := Claim7.holds Tryd.pinned (.plain (OpenSpec.ofChange scanReadsSpec)) scanReadsCard

/-- THE SECOND FORM's CARD OF 'indenturelaw05.ScanReads'. -/
def scanReadsUptoCard : Claim7 := { stood := { row := scanReadsUptoRow, standIns := [], harness := (true, "a268b66a9b6e828711ce450e57f70d5c7f6f7e2a5490ba7822dabc6ef4f8743c"), looks := false }, kinds := [], alts := [], laidByText := true, laidKinds := [.widerDeep, .widerDeep], laidTests := true, laidLooks := .later }
def ScanReadsUptoCardSaid : Prop := Claim7.holds Tryd.pinned (.plain (OpenSpec.upto scanReadsSpec)) scanReadsUptoCard
end Rows
end Go.Proofs.YtkaafakodeeidaaDoor
