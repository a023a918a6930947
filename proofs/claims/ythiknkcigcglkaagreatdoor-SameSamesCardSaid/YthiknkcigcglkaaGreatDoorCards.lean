/-
  DERIVED. GIVEN WITH THE SEED: THE CARDS: each row of YthiknkcigcglkaaGreatDoorRows.lean that lists a variable, with what it lists TIED to the program's text (the seventh form; the later family's looks); each row that meets fmt, with fmt's text TOLD by the authors' own Lean function (tested against real Go, not proved from fmt's source: count such statements apart). THE CARD IS WHAT COUNTS. Prove the row's statement (the work); the ties are given (YthiknkcigcglkaaGreatDoorTie.lean); close each card by the builder's one call (the guide's Derived/Test/ToyasCard.lean, 'card_holds'). Laid BY PROGRAM, IN A SANDBOX (cutbox-door.mjs). By AI agents, Wed Nov 11 2026. No macro, syntax, notation, axiom, sorry.
-/
import Derived.Test.YthiknkcigcglkaaGreatDoorRows
import GoSem.ClaimSeven
namespace Go.Proofs.YthiknkcigcglkaaGreatDoor
namespace Rows

/-- THE TIED CARD OF 'tropicalaw.LeastMakes'. -/
def leastMakesCard : Claim7 := { stood := { row := leastMakesRow, standIns := [], harness := (true, "44fc30ffa4a9bc02ad4802a5a3a767f6044218fcc89642e52e88e424ad017258"), looks := false }, kinds := [], alts := [], laidByText := true, laidKinds := [.data, .data, .data], laidTests := true, laidLooks := .later }
def LeastMakesCardSaid : Prop := Claim7.holds Tryz.pinned (.plain (OpenSpec.ofChange leastMakesSpec)) leastMakesCard

/-- THE TIED CARD OF 'tropicalaw.SameNormals'. -/
def sameNormalsCard : Claim7 := { stood := { row := sameNormalsRow, standIns := [], harness := (true, "44fc30ffa4a9bc02ad4802a5a3a767f6044218fcc89642e52e88e424ad017258"), looks := false }, kinds := [], alts := [], laidByText := true, laidKinds := [.data, .data, .data], laidTests := true, laidLooks := .later }
def SameNormalsCardSaid : Prop := Claim7.holds Tryz.pinned (.plain (OpenSpec.ofChange sameNormalsSpec)) sameNormalsCard

/-- THE TIED CARD OF 'tropicalaw.SameSames'. -/
def sameSamesCard : Claim7 := { stood := { row := sameSamesRow, standIns := [], harness := (true, "44fc30ffa4a9bc02ad4802a5a3a767f6044218fcc89642e52e88e424ad017258"), looks := false }, kinds := [], alts := [], laidByText := true, laidKinds := [.data, .data, .data], laidTests := true, laidLooks := .later }
def SameSamesCardSaid : Prop := Claim7.holds Tryz.pinned (.plain (OpenSpec.ofChange sameSamesSpec)) sameSamesCard

/-- THE SECOND FORM's CARD OF 'tropicalaw.LeastMakes'. -/
def leastMakesUptoCard : Claim7 := { stood := { row := leastMakesUptoRow, standIns := [], harness := (true, "44fc30ffa4a9bc02ad4802a5a3a767f6044218fcc89642e52e88e424ad017258"), looks := false }, kinds := [], alts := [], laidByText := true, laidKinds := [.data, .data, .data], laidTests := true, laidLooks := .later }
def LeastMakesUptoCardSaid : Prop := Claim7.holds Tryz.pinned (.plain (OpenSpec.upto leastMakesSpec)) leastMakesUptoCard

/-- THE SECOND FORM's CARD OF 'tropicalaw.SameNormals'. -/
def sameNormalsUptoCard : Claim7 := { stood := { row := sameNormalsUptoRow, standIns := [], harness := (true, "44fc30ffa4a9bc02ad4802a5a3a767f6044218fcc89642e52e88e424ad017258"), looks := false }, kinds := [], alts := [], laidByText := true, laidKinds := [.data, .data, .data], laidTests := true, laidLooks := .later }
def SameNormalsUptoCardSaid : Prop := Claim7.holds Tryz.pinned (.plain (OpenSpec.upto sameNormalsSpec)) sameNormalsUptoCard

/-- THE SECOND FORM's CARD OF 'tropicalaw.SameSames'. -/
def sameSamesUptoCard : Claim7 := { stood := { row := sameSamesUptoRow, standIns := [], harness := (true, "44fc30ffa4a9bc02ad4802a5a3a767f6044218fcc89642e52e88e424ad017258"), looks := false }, kinds := [], alts := [], laidByText := true, laidKinds := [.data, .data, .data], laidTests := true, laidLooks := .later }
def SameSamesUptoCardSaid : Prop := Claim7.holds Tryz.pinned (.plain (OpenSpec.upto sameSamesSpec)) sameSamesUptoCard
end Rows
end Go.Proofs.YthiknkcigcglkaaGreatDoor
