/-
  DERIVED. GIVEN WITH THE SEED: THE CARDS: each row of YthflidjnlnmbiaaDoorRows.lean that lists a variable, with what it lists TIED to the program's text (the seventh form; the later family's looks); each row that meets fmt, with fmt's text TOLD by the authors' own Lean function (tested against real Go, not proved from fmt's source: count such statements apart). THE CARD IS WHAT COUNTS. Prove the row's statement (the work); the ties are given (YthflidjnlnmbiaaDoorTie.lean); close each card by the builder's one call (the guide's Derived/Test/ToyasCard.lean, 'card_holds'). Laid BY PROGRAM, IN A SANDBOX (cutbox-door.mjs). By AI agents, Wed Nov 11 2026. No macro, syntax, notation, axiom, sorry.
-/
import Derived.Test.YthflidjnlnmbiaaDoorRows
import GoSem.ClaimSeven
namespace Go.Proofs.YthflidjnlnmbiaaDoor
namespace Rows

/-- THE TIED CARD OF 'tropicalaw.WeightShows'. -/
def weightShowsCard : Claim7 := { stood := { row := weightShowsRow, standIns := [], harness := (true, "e6959011a908130b4185b2ccb6fc453a0d2939649d5d2f2d1cc2f3a4f8329808"), looks := true }, kinds := [], alts := [], laidByText := true, laidKinds := [.data, .data, .data], laidTests := true, laidLooks := .later }
def WeightShowsCardSaid : Prop := Claim7.holds Tryd.pinned (.plain (OpenSpec.ofChange weightShowsSpec)) weightShowsCard

/-- THE TIED CARD OF 'tropicalaw.WeightReads'. -/
def weightReadsCard : Claim7 := { stood := { row := weightReadsRow, standIns := [], harness := (true, "e6959011a908130b4185b2ccb6fc453a0d2939649d5d2f2d1cc2f3a4f8329808"), looks := true }, kinds := [], alts := [], laidByText := true, laidKinds := [.data, .data, .data, .data, .sentinel, .sentinel, .pinned], laidTests := true, laidLooks := .later }
def WeightReadsCardSaid : Prop := Claim7.holds Tryd.pinned (.plain (OpenSpec.ofChange weightReadsSpec)) weightReadsCard

/-- THE TIED CARD OF 'tropicalaw.NamesShows'. -/
def namesShowsCard : Claim7 := { stood := { row := namesShowsRow, standIns := [], harness := (true, "e6959011a908130b4185b2ccb6fc453a0d2939649d5d2f2d1cc2f3a4f8329808"), looks := true }, kinds := [], alts := [], laidByText := true, laidKinds := [.data, .data, .data], laidTests := true, laidLooks := .later }
def NamesShowsCardSaid : Prop := Claim7.holds Tryd.pinned (.plain (OpenSpec.ofChange namesShowsSpec)) namesShowsCard

/-- THE TIED CARD OF 'tropicalaw.PaperShows'. -/
def paperShowsCard : Claim7 := { stood := { row := paperShowsRow, standIns := [], harness := (true, "e6959011a908130b4185b2ccb6fc453a0d2939649d5d2f2d1cc2f3a4f8329808"), looks := true }, kinds := [], alts := [], laidByText := true, laidKinds := [.data, .data, .data], laidTests := true, laidLooks := .later }
def PaperShowsCardSaid : Prop := Claim7.holds Tryd.pinned (.plain (OpenSpec.ofChange paperShowsSpec)) paperShowsCard

/-- THE SECOND FORM's CARD OF 'tropicalaw.WeightShows'. -/
def weightShowsUptoCard : Claim7 := { stood := { row := weightShowsUptoRow, standIns := [], harness := (true, "e6959011a908130b4185b2ccb6fc453a0d2939649d5d2f2d1cc2f3a4f8329808"), looks := true }, kinds := [], alts := [], laidByText := true, laidKinds := [.data, .data, .data], laidTests := true, laidLooks := .later }
def WeightShowsUptoCardSaid : Prop := Claim7.holds Tryd.pinned (.plain (OpenSpec.upto weightShowsSpec)) weightShowsUptoCard

/-- THE SECOND FORM's CARD OF 'tropicalaw.WeightReads'. -/
def weightReadsUptoCard : Claim7 := { stood := { row := weightReadsUptoRow, standIns := [], harness := (true, "e6959011a908130b4185b2ccb6fc453a0d2939649d5d2f2d1cc2f3a4f8329808"), looks := true }, kinds := [], alts := [], laidByText := true, laidKinds := [.data, .data, .data, .data, .sentinel, .sentinel, .pinned], laidTests := true, laidLooks := .later }
def WeightReadsUptoCardSaid : Prop := Claim7.holds Tryd.pinned (.plain (OpenSpec.upto weightReadsSpec)) weightReadsUptoCard

/-- THE SECOND FORM's CARD OF 'tropicalaw.NamesShows'. -/
def namesShowsUptoCard : Claim7 := { stood := { row := namesShowsUptoRow, standIns := [], harness := (true, "e6959011a908130b4185b2ccb6fc453a0d2939649d5d2f2d1cc2f3a4f8329808"), looks := true }, kinds := [], alts := [], laidByText := true, laidKinds := [.data, .data, .data], laidTests := true, laidLooks := .later }
def NamesShowsUptoCardSaid : Prop := Claim7.holds Tryd.pinned (.plain (OpenSpec.upto namesShowsSpec)) namesShowsUptoCard

/-- THE SECOND FORM's CARD OF 'tropicalaw.PaperShows'. -/
def paperShowsUptoCard : Claim7 := { stood := { row := paperShowsUptoRow, standIns := [], harness := (true, "e6959011a908130b4185b2ccb6fc453a0d2939649d5d2f2d1cc2f3a4f8329808"), looks := true }, kinds := [], alts := [], laidByText := true, laidKinds := [.data, .data, .data], laidTests := true, laidLooks := .later }
def PaperShowsUptoCardSaid : Prop := Claim7.holds Tryd.pinned (.plain (OpenSpec.upto paperShowsSpec)) paperShowsUptoCard
end Rows
end Go.Proofs.YthflidjnlnmbiaaDoor
