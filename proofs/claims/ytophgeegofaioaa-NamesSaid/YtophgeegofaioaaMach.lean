/- Machines as plain data, and what memory holds of them. -/
import Derived.Test.YtophgeegofaioaaBase
namespace Go.Proofs.Ytophgeegofaioaa
open Go.RowKit
set_option linter.unusedSimpArgs false
set_option linter.unusedVariables false

structure Ar where
  i : Int
  o : Int
  w : Int
  t : Int


structure St where
  fin : Int
  arcs : List Ar


structure Mach where
  start : Int
  states : List St


instance : Inhabited Ar := ⟨⟨0, 0, 0, 0⟩⟩
instance : Inhabited St := ⟨⟨0, []⟩⟩
instance : Inhabited Mach := ⟨⟨0, []⟩⟩

def arCells (a : Ar) : List Value := [.int .i64 a.i, .int .i64 a.o, .int .i64 a.w, .int .i64 a.t]
theorem arCells_len (a : Ar) : (arCells a).length = 4 := rfl
theorem arCells_one (a : Ar) : ∀ u ∈ arCells a, u.oneCell' = true := by simp [arCells, Value.oneCell']
def ArcsAt (w : World) (v : Value) (l : List Ar) : Prop := SlAt w 4 32 arCells v l

def stCells (x : Int × Value × List Ar) : List Value := [.int .i64 x.1, x.2.1]
theorem stCells_len (x : Int × Value × List Ar) : (stCells x).length = 2 := rfl
def forget (x : Int × Value × List Ar) : St := ⟨x.1, x.2.2⟩
def StatesAt (w : World) (v : Value) (l : List St) : Prop :=
  ∃ ts : List (Int × Value × List Ar), l = ts.map (fun x => ⟨x.1, x.2.2⟩) ∧ SlAt w 2 32 stCells v ts ∧ ∀ x ∈ ts, ArcsAt w x.2.1 x.2.2
def MachAt (w : World) (v : Value) (m : Mach) : Prop := ∃ sv, v = .agg #[.int .i64 m.start, sv] ∧ StatesAt w sv m.states

theorem ArcsAt.at {w : World} {a : Option Addr} {len cap : Nat} {l : List Ar} (h : ArcsAt w (.slice a len cap) l) {i : Nat} (hi : i < len) :
    ∃ b o x, a = some ⟨b, o, none⟩ ∧ l[i]? = some x ∧ w.cell? ⟨b, o + i * 4, none⟩ = some (.int .i64 x.i) ∧ w.cell? ⟨b, o + i * 4 + 1, none⟩ = some (.int .i64 x.o) ∧
      w.cell? ⟨b, o + i * 4 + 2, none⟩ = some (.int .i64 x.w) ∧ w.cell? ⟨b, o + i * 4 + 3, none⟩ = some (.int .i64 x.t) := by
  obtain ⟨b, o, x, ha, hx, hc⟩ := SlAt.at h hi
  refine ⟨b, o, x, ha, hx, ?_, ?_, ?_, ?_⟩
  · simpa [arCells] using hc 0 (by omega)
  · simpa [arCells] using hc 1 (by omega)
  · simpa [arCells] using hc 2 (by omega)
  · simpa [arCells] using hc 3 (by omega)
theorem ArcsAt.opens {w : World} {v : Value} {l : List Ar} (h : ArcsAt w v l) :
    ∃ a len cap, v = .slice a len cap ∧ len ≤ 4398046511104 ∧ Hid (ArcsAt w (.slice a len cap) l) ∧ Hid (l.length = len) := by
  obtain ⟨a, cap, rfl⟩ := SlAt.val h
  exact ⟨a, _, cap, rfl, by have := SlAt.lt h; omega, h, (rfl : l.length = l.length)⟩
theorem ArcsAt.mono {w w' : World} {v : Value} {l : List Ar} (h : ArcsAt w v l) (hb : Below w.heap.size w w') : ArcsAt w' v l := SlAt.mono h hb (by omega) arCells_len

theorem StatesAt.at {w : World} {a : Option Addr} {len cap : Nat} {l : List St} (h : StatesAt w (.slice a len cap) l) {i : Nat} (hi : i < len) :
    ∃ b o x av, a = some ⟨b, o, none⟩ ∧ l[i]? = some x ∧ w.cell? ⟨b, o + i * 2, none⟩ = some (.int .i64 x.fin) ∧ w.cell? ⟨b, o + i * 2 + 1, none⟩ = some av ∧ ArcsAt w av x.arcs := by
  obtain ⟨ts, rfl, hs, hall⟩ := h
  obtain ⟨b, o, x, ha, hx, hc⟩ := SlAt.at hs hi
  refine ⟨b, o, ⟨x.1, x.2.2⟩, x.2.1, ha, by simp [hx], ?_, ?_, hall x (List.mem_of_getElem? hx)⟩
  · simpa [stCells] using hc 0 (by omega)
  · simpa [stCells] using hc 1 (by omega)
theorem StatesAt.opens {w : World} {v : Value} {l : List St} (h : StatesAt w v l) :
    ∃ a len cap, v = .slice a len cap ∧ len ≤ 4398046511104 ∧ Hid (StatesAt w (.slice a len cap) l) ∧ Hid (l.length = len) := by
  obtain ⟨ts, rfl, hs, hall⟩ := h
  obtain ⟨a, cap, rfl⟩ := SlAt.val hs
  exact ⟨a, _, cap, rfl, by have := SlAt.lt hs; omega, ⟨ts, rfl, hs, hall⟩, by simp [Hid]⟩
theorem StatesAt.mono {w w' : World} {v : Value} {l : List St} (h : StatesAt w v l) (hb : Below w.heap.size w w') : StatesAt w' v l := by
  obtain ⟨ts, rfl, hs, hall⟩ := h
  exact ⟨ts, rfl, hs.mono hb (by omega) stCells_len, fun x hx => (hall x hx).mono hb⟩
theorem MachAt.opens {w : World} {v : Value} {m : Mach} (h : MachAt w v m) :
    ∃ a len cap, v = .agg #[.int .i64 m.start, .slice a len cap] ∧ len ≤ 4398046511104 ∧ Hid (StatesAt w (.slice a len cap) m.states) ∧ Hid (m.states.length = len) := by
  obtain ⟨sv, rfl, hs⟩ := h
  obtain ⟨a, len, cap, rfl, h1, h2, h3⟩ := hs.opens
  exact ⟨a, len, cap, rfl, h1, h2, h3⟩
theorem MachAt.mono {w w' : World} {v : Value} {m : Mach} (h : MachAt w v m) (hb : Below w.heap.size w w') : MachAt w' v m := by
  obtain ⟨sv, rfl, hs⟩ := h
  exact ⟨sv, rfl, hs.mono hb⟩
end Go.Proofs.Ytophgeegofaioaa
