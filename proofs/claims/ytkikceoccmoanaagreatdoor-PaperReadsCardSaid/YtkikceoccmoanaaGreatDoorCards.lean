/-
  DERIVED. GIVEN WITH THE SEED: THE CARDS: each row of YtkikceoccmoanaaGreatDoorRows.lean that lists a variable, with what it lists TIED to the program's text (the seventh form; the later family's looks); each row that meets fmt, with fmt's text TOLD by the authors' own Lean function (tested against real Go, not proved from fmt's source: count such statements apart). THE CARD IS WHAT COUNTS. Prove the row's statement (the work); the ties are given (YtkikceoccmoanaaGreatDoorTie.lean); close each card by the builder's one call (the guide's Derived/Test/ToyasCard.lean, 'card_holds'). Laid BY PROGRAM, IN A SANDBOX (cutbox-door.mjs). By AI agents, Wed Nov 11 2026. No macro, syntax, notation, axiom, sorry.
-/
import Derived.Test.YtkikceoccmoanaaGreatDoorRows
import GoSem.ClaimSeven
namespace Go.Proofs.YtkikceoccmoanaaGreatDoor
namespace Rows

/-- THE TIED CARD OF 'tropicalaw.PaperReads'. -/
def paperReadsCard : Claim7 := { stood := { row := paperReadsRow, standIns := [], harness := (true, "2b20c9a57a52df6f2b0503d9fea963498733be6d56d39383d762eedab3fb6af4"), looks := true }, kinds := [], alts := [], laidByText := true, laidKinds := [.data, .data, .data, .data, .sentinel, .sentinel, .pinned], laidTests := true, laidLooks := .later }
def PaperReadsCardSaid : Prop := Claim7.holds Tryz.pinned (.plain (OpenSpec.ofChange paperReadsSpec)) paperReadsCard

/-- THE SECOND FORM's CARD OF 'tropicalaw.PaperReads'. -/
def paperReadsUptoCard : Claim7 := { stood := { row := paperReadsUptoRow, standIns := [], harness := (true, "2b20c9a57a52df6f2b0503d9fea963498733be6d56d39383d762eedab3fb6af4"), looks := true }, kinds := [], alts := [], laidByText := true, laidKinds := [.data, .data, .data, .data, .sentinel, .sentinel, .pinned], laidTests := true, laidLooks := .later }
def PaperReadsUptoCardSaid : Prop := Claim7.holds Tryz.pinned (.plain (OpenSpec.upto paperReadsSpec)) paperReadsUptoCard
end Rows
end Go.Proofs.YtkikceoccmoanaaGreatDoor
