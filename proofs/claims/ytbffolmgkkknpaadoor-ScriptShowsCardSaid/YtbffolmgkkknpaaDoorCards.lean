/-
  DERIVED. GIVEN WITH THE SEED: THE CARDS: each row of YtbffolmgkkknpaaDoorRows.lean that lists a variable, with what it lists TIED to the program's text (the seventh form; the later family's looks); each row that meets fmt, with fmt's text TOLD by the authors' own Lean function (tested against real Go, not proved from fmt's source: count such statements apart). THE CARD IS WHAT COUNTS. Prove the row's statement (the work); the ties are given (YtbffolmgkkknpaaDoorTie.lean); close each card by the builder's one call (the guide's Derived/Test/ToyasCard.lean, 'card_holds'). Laid BY PROGRAM, IN A SANDBOX (cutbox-door.mjs). By AI agents, Wed Nov 11 2026. No macro, syntax, notation, axiom, sorry.
-/
import Derived.Test.YtbffolmgkkknpaaDoorRows
import GoSem.ClaimSeven
namespace Go.Proofs.YtbffolmgkkknpaaDoor
namespace Rows

/-- THE TIED CARD OF 'tropicalaw.ScriptShows'. -/
def scriptShowsCard : Claim7 := { stood := { row := scriptShowsRow, standIns := [], harness := (true, "c9f2be37cbabc92f9b0ba5d759f71abf7e2837a6d0fa607ca5f3728c045222a0"), looks := false }, kinds := [], alts := [], laidByText := true, laidKinds := [.data, .data, .pinned], laidTests := true, laidLooks := .later }
def ScriptShowsCardSaid : Prop := Claim7.holds Tryd.pinned (.plain (OpenSpec.ofChange scriptShowsSpec)) scriptShowsCard

/-- THE TIED CARD OF 'tropicalaw.PaperShows'. -/
def paperShowsCard : Claim7 := { stood := { row := paperShowsRow, standIns := [], harness := (true, "c9f2be37cbabc92f9b0ba5d759f71abf7e2837a6d0fa607ca5f3728c045222a0"), looks := false }, kinds := [], alts := [], laidByText := true, laidKinds := [.data, .data, .data], laidTests := true, laidLooks := .later }
def PaperShowsCardSaid : Prop := Claim7.holds Tryd.pinned (.plain (OpenSpec.ofChange paperShowsSpec)) paperShowsCard

/-- THE TIED CARD OF 'tropicalaw.ScriptReads'. -/
def scriptReadsCard : Claim7 := { stood := { row := scriptReadsRow, standIns := [], harness := (true, "c9f2be37cbabc92f9b0ba5d759f71abf7e2837a6d0fa607ca5f3728c045222a0"), looks := false }, kinds := [], alts := [], laidByText := true, laidKinds := [.data, .data, .pinned], laidTests := true, laidLooks := .later }
def ScriptReadsCardSaid : Prop := Claim7.holds Tryd.pinned (.plain (OpenSpec.ofChange scriptReadsSpec)) scriptReadsCard

/-- THE SECOND FORM's CARD OF 'tropicalaw.ScriptShows'. -/
def scriptShowsUptoCard : Claim7 := { stood := { row := scriptShowsUptoRow, standIns := [], harness := (true, "c9f2be37cbabc92f9b0ba5d759f71abf7e2837a6d0fa607ca5f3728c045222a0"), looks := false }, kinds := [], alts := [], laidByText := true, laidKinds := [.data, .data, .pinned], laidTests := true, laidLooks := .later }
def ScriptShowsUptoCardSaid : Prop := Claim7.holds Tryd.pinned (.plain (OpenSpec.upto scriptShowsSpec)) scriptShowsUptoCard

/-- THE SECOND FORM's CARD OF 'tropicalaw.PaperShows'. -/
def paperShowsUptoCard : Claim7 := { stood := { row := paperShowsUptoRow, standIns := [], harness := (true, "c9f2be37cbabc92f9b0ba5d759f71abf7e2837a6d0fa607ca5f3728c045222a0"), looks := false }, kinds := [], alts := [], laidByText := true, laidKinds := [.data, .data, .data], laidTests := true, laidLooks := .later }
def PaperShowsUptoCardSaid : Prop := Claim7.holds Tryd.pinned (.plain (OpenSpec.upto paperShowsSpec)) paperShowsUptoCard

/-- THE SECOND FORM's CARD OF 'tropicalaw.ScriptReads'. -/
def scriptReadsUptoCard : Claim7 := { stood := { row := scriptReadsUptoRow, standIns := [], harness := (true, "c9f2be37cbabc92f9b0ba5d759f71abf7e2837a6d0fa607ca5f3728c045222a0"), looks := false }, kinds := [], alts := [], laidByText := true, laidKinds := [.data, .data, .pinned], laidTests := true, laidLooks := .later }
def ScriptReadsUptoCardSaid : Prop := Claim7.holds Tryd.pinned (.plain (OpenSpec.upto scriptReadsSpec)) scriptReadsUptoCard
end Rows
end Go.Proofs.YtbffolmgkkknpaaDoor
