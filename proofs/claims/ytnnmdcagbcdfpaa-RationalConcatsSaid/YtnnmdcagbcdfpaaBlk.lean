/- Blocks that are known whole: their cells, what a call, an allocation, a store makes of them. -/
import Derived.Test.YtnnmdcagbcdfpaaKeep
namespace Go.Proofs.Ytnnmdcagbcdfpaa
open Go.RowKit
set_option linter.unusedSimpArgs false
set_option linter.unusedVariables false
/-- Block b holds just these cells, and may be written. -/
def Blk (w : World) (b : Nat) (a : Array Value) (T : TypeId) : Prop := w.heap[b]? = some (.cells a T (0, 0))
section
variable {w w' : World} {b : Nat} {a : Array Value} {T : TypeId}
theorem Blk.new (w : World) (a : Array Value) (T : TypeId) : Blk (w.alloc (.cells a T)) w.heap.size a T := heap_alloc_new w _
theorem Blk.new' (w : World) (a : Array Value) (T : TypeId) {n : Nat} (h : w.heap.size = n) : Blk (w.alloc (.cells a T)) n a T := h ▸ Blk.new w a T
theorem Blk.lt (h : Blk w b a T) : b < w.heap.size := (Array.getElem?_eq_some_iff.1 h).1
theorem Blk.cell (h : Blk w b a T) (i : Nat) {v : Value} (hi : a[i]? = some v) : w.cell? ⟨b, i, none⟩ = some v := (cell_of_row w b i a T (0, 0) h).trans hi
theorem Blk.free (h : Blk w b a T) (i : Nat) : w.frozen? ⟨b, i, none⟩ = false := frozen_of_row w b i a T h
theorem Blk.to (h : Blk w b a T) (hb : Below w.heap.size w w') : Blk w' b a T := (hb.block b h.lt).trans h
theorem Blk.under {B : Nat} (h : Blk w b a T) (hb : Below B w w') (hB : b < B) : Blk w' b a T := (hb.block b hB).trans h
theorem Blk.al (h : Blk w b a T) (o : Obj) : Blk (w.alloc o) b a T := (Below.heap_alloc w o b h.lt).trans h
theorem Blk.dr (h : Blk w b a T) (n : Nat) : Blk (w.drewN n) b a T := h
theorem Blk.d1 (h : Blk w b a T) : Blk w.drew b a T := h
theorem Blk.set (h : Blk w b a T) (i : Nat) (v : Value) : Blk (w.setCell ⟨b, i, none⟩ v) b (a.setIfInBounds i v) T := by
  unfold Blk World.setCell
  simp only [Array.getElem?_modify, if_true, Option.isSome_none, Bool.false_eq_true, if_false]
  rw [h]
  rfl
theorem Blk.other (h : Blk w b a T) {p : Addr} (hp : b ≠ p.block) (v : Value) : Blk (w.setCell p v) b a T := (Below.heap_setCell _ _ _ _ hp).trans h
theorem Blk.grown (h : Blk w b a T) {row : Option Nat} (hg : w.grownBy w' row) (hne : some b ≠ row) : Blk w' b a T := (hg.block b h.lt hne).trans h
theorem Blk.same (h : Blk w b a T) (hb : w'.heap[b]? = w.heap[b]?) : Blk w' b a T := hb.trans h
end
end Go.Proofs.Ytnnmdcagbcdfpaa
