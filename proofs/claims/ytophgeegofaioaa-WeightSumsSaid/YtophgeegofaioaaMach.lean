/- Machines as plain data, and what memory holds of them. -/
import Derived.Test.YtophgeegofaioaaBase
namespace Go.Proofs.Ytophgeegofaioaa
open Go.RowKit
set_option linter.unusedSimpArgs false
set_option linter.unusedVariables false

structure Ar where
  i : Int
  o : Int
  w : Int
  t : Int


structure St where
  fin : Int
  arcs : List Ar


structure Mach where
  start : Int
  states : List St


instance : Inhabited Ar := ⟨⟨0, 0, 0, 0⟩⟩
instance : Inhabited St := ⟨⟨0, []⟩⟩
instance : Inhabited Mach := ⟨⟨0, []⟩⟩

def arCells (a : Ar) : List Value := [.int .i64 a.i, .int .i64 a.o, .int .i64 a.w, .int .i64 a.t]
theorem arCells_len (a : Ar) : (arCells a).length = 4 := rfl
theorem arCells_one (a : Ar) : ∀ u ∈ arCells a, u.oneCell' = true := by simp [arCells, Value.oneCell']
def ArcsAt (w : World) (v : Value) (l : List Ar) : Prop := SlAt w 4 32 arCells v l

def stCells (x : Int × Value × List Ar) : List Value := [.int .i64 x.1, x.2.1]
theorem stCells_len (x : Int × Value × List Ar) : (stCells x).length = 2 := rfl
def forget (x : Int × Value × List Ar) : St := ⟨x.1, x.2.2⟩
def StatesAt (w : World) (v : Value) (l : List St) : Prop :=
  ∃ ts : List (Int × Value × List Ar), l = ts.map (fun x => ⟨x.1, x.2.2⟩) ∧ SlAt w 2 32 stCells v ts ∧ ∀ x ∈ ts, ArcsAt w x.2.1 x.2.2
def MachAt (w : World) (v : Value) (m : Mach) : Prop := ∃ sv, v = .agg #[.int .i64 m.start, sv] ∧ StatesAt w sv m.states
end Go.Proofs.Ytophgeegofaioaa
