/-
  DERIVED. GIVEN WITH THE SEED: THE CARDS: each row of YthiknkcigcglkaaDoorRows.lean that lists a variable, with what it lists TIED to the program's text (the seventh form; the later family's looks); each row that meets fmt, with fmt's text TOLD by the authors' own Lean function (tested against real Go, not proved from fmt's source: count such statements apart). THE CARD IS WHAT COUNTS. Prove the row's statement (the work); the ties are given (YthiknkcigcglkaaDoorTie.lean); close each card by the builder's one call (the guide's Derived/Test/ToyasCard.lean, 'card_holds'). Laid BY PROGRAM, IN A SANDBOX (cutbox-door.mjs). By AI agents, Wed Nov 11 2026. No macro, syntax, notation, axiom, sorry.
-/
import Derived.Test.YthiknkcigcglkaaDoorRows
import GoSem.ClaimSeven
namespace Go.Proofs.YthiknkcigcglkaaDoor
namespace Rows

/-- THE TIED CARD OF 'tropicalaw.CertainMakes'. -/
def certainMakesCard : Claim7 := { stood := { row := certainMakesRow, standIns := [], harness := (true, "bcceaaa6313554f3e934a2640687d9faccb8b603206c07ed0b616853928574f1"), looks := false }, kinds := [], alts := [], laidByText := true, laidKinds := [.data, .data, .data], laidTests := true, laidLooks := .later }
def CertainMakesCardSaid : Prop := Claim7.holds Tryd.pinned (.plain (OpenSpec.ofChange certainMakesSpec)) certainMakesCard

/-- THE SECOND FORM's CARD OF 'tropicalaw.CertainMakes'. -/
def certainMakesUptoCard : Claim7 := { stood := { row := certainMakesUptoRow, standIns := [], harness := (true, "bcceaaa6313554f3e934a2640687d9faccb8b603206c07ed0b616853928574f1"), looks := false }, kinds := [], alts := [], laidByText := true, laidKinds := [.data, .data, .data], laidTests := true, laidLooks := .later }
def CertainMakesUptoCardSaid : Prop := Claim7.holds Tryd.pinned (.plain (OpenSpec.upto certainMakesSpec)) certainMakesUptoCard
end Rows
end Go.Proofs.YthiknkcigcglkaaDoor
