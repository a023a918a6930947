/-
  DERIVED. GIVEN WITH THE SEED: THE CARDS: each row of YtlgnjehfojogmaaDoorRows.lean that lists a variable, with what it lists TIED to the program's text (the seventh form; the later family's looks); each row that meets fmt, with fmt's text TOLD by the authors' own Lean function (tested against real Go, not proved from fmt's source: count such statements apart). THE CARD IS WHAT COUNTS. Prove the row's statement (the work); the ties are given (YtlgnjehfojogmaaDoorTie.lean); close each card by the builder's one call (the guide's Derived/Test/ToyasCard.lean, 'card_holds'). Laid BY PROGRAM, IN A SANDBOX (cutbox-door.mjs). By AI agents, Wed Nov 11 2026. No macro, syntax, notation, axiom, sorry.
-/
import Derived.Test.YtlgnjehfojogmaaDoorRows
import GoSem.ClaimSeven
namespace Go.Proofs.YtlgnjehfojogmaaDoor
namespace Rows

/-- THE TIED CARD OF 'tropicalaw.NamesReads'. -/
def namesReadsCard : Claim7 := { stood := { row := namesReadsRow, standIns := [], harness := (true, "53e349b03b6a4f18c5637e9df8ce0595ab71937388c9f514d461006bb41e4dad"), looks := true }, kinds := [], alts := [], laidByText := true, laidKinds := [.data, .data, .data, .sentinel, .sentinel], laidTests := true, laidLooks := .later }
def NamesReadsCardSaid : Prop := Claim7.holds Tryd.pinned (.plain (OpenSpec.ofChange namesReadsSpec)) namesReadsCard

/-- THE TIED CARD OF 'tropicalaw.ScriptReads'. -/
def scriptReadsCard : Claim7 := { stood := { row := scriptReadsRow, standIns := [], harness := (true, "53e349b03b6a4f18c5637e9df8ce0595ab71937388c9f514d461006bb41e4dad"), looks := true }, kinds := [], alts := [], laidByText := true, laidKinds := [.data, .data, .pinned], laidTests := true, laidLooks := .later }
def ScriptReadsCardSaid : Prop := Claim7.holds Tryd.pinned (.plain (OpenSpec.ofChange scriptReadsSpec)) scriptReadsCard

/-- THE TIED CARD OF 'tropicalaw.PaperShows'. -/
def paperShowsCard : Claim7 := { stood := { row := paperShowsRow, standIns := [], harness := (true, "53e349b03b6a4f18c5637e9df8ce0595ab71937388c9f514d461006bb41e4dad"), looks := true }, kinds := [], alts := [], laidByText := true, laidKinds := [.data, .data, .data], laidTests := true, laidLooks := .later }
def PaperShowsCardSaid : Prop := Claim7.holds Tryd.pinned (.plain (OpenSpec.ofChange paperShowsSpec)) paperShowsCard

/-- THE SECOND FORM's CARD OF 'tropicalaw.NamesReads'. -/
def namesReadsUptoCard : Claim7 := { stood := { row := namesReadsUptoRow, standIns := [], harness := (true, "53e349b03b6a4f18c5637e9df8ce0595ab71937388c9f514d461006bb41e4dad"), looks := true }, kinds := [], alts := [], laidByText := true, laidKinds := [.data, .data, .data, .sentinel, .sentinel], laidTests := true, laidLooks := .later }
def NamesReadsUptoCardSaid : Prop := Claim7.holds Tryd.pinned (.plain (OpenSpec.upto namesReadsSpec)) namesReadsUptoCard

/-- THE SECOND FORM's CARD OF 'tropicalaw.ScriptReads'. -/
def scriptReadsUptoCard : Claim7 := { stood := { row := scriptReadsUptoRow, standIns := [], harness := (true, "53e349b03b6a4f18c5637e9df8ce0595ab71937388c9f514d461006bb41e4dad"), looks := true }, kinds := [], alts := [], laidByText := true, laidKinds := [.data, .data, .pinned], laidTests := true, laidLooks := .later }
def ScriptReadsUptoCardSaid : Prop := Claim7.holds Tryd.pinned (.plain (OpenSpec.upto scriptReadsSpec)) scriptReadsUptoCard

/-- THE SECOND FORM's CARD OF 'tropicalaw.PaperShows'. -/
def paperShowsUptoCard : Claim7 := { stood := { row := paperShowsUptoRow, standIns := [], harness := (true, "53e349b03b6a4f18c5637e9df8ce0595ab71937388c9f514d461006bb41e4dad"), looks := true }, kinds := [], alts := [], laidByText := true, laidKinds := [.data, .data, .data], laidTests := true, laidLooks := .later }
def PaperShowsUptoCardSaid : Prop := Claim7.holds Tryd.pinned (.plain (OpenSpec.upto paperShowsSpec)) paperShowsUptoCard
end Rows
end Go.Proofs.YtlgnjehfojogmaaDoor
