/- Machines as plain data, and what memory holds of them. -/
import Derived.Test.YthlcginebeapdaaBase
namespace Go.Proofs.Ythlcginebeapdaa
open Go.RowKit
set_option linter.unusedSimpArgs false
set_option linter.unusedVariables false

structure Ar where
  i : Int
  o : Int
  w : Int
  t : Int


structure St where
  fin : Int
  arcs : List Ar


structure Mach where
  start : Int
  states : List St


instance : Inhabited Ar := ⟨⟨0, 0, 0, 0⟩⟩
instance : Inhabited St := ⟨⟨0, []⟩⟩
instance : Inhabited Mach := ⟨⟨0, []⟩⟩

def arCells (a : Ar) : List Value := [.int .i64 a.i, .int .i64 a.o, .int .i64 a.w, .int .i64 a.t]
theorem arCells_len (a : Ar) : (arCells a).length = 4 := rfl
theorem arCells_one (a : Ar) : ∀ u ∈ arCells a, u.oneCell' = true := by simp [arCells, Value.oneCell']
def ArcsAt (w : World) (v : Value) (l : List Ar) : Prop := SlAt w 4 32 arCells v l

def stCells (x : Int × Value × List Ar) : List Value := [.int .i64 x.1, x.2.1]
theorem stCells_len (x : Int × Value × List Ar) : (stCells x).length = 2 := rfl
def forget (x : Int × Value × List Ar) : St := ⟨x.1, x.2.2⟩
def StatesAt (w : World) (v : Value) (l : List St) : Prop :=
  ∃ ts : List (Int × Value × List Ar), l = ts.map (fun x => ⟨x.1, x.2.2⟩) ∧ SlAt w 2 32 stCells v ts ∧ ∀ x ∈ ts, ArcsAt w x.2.1 x.2.2
def MachAt (w : World) (v : Value) (m : Mach) : Prop := ∃ sv, v = .agg #[.int .i64 m.start, sv] ∧ StatesAt w sv m.states

theorem ArcsAt.at {w : World} {a : Option Addr} {len cap : Nat} {l : List Ar} (h : ArcsAt w (.slice a len cap) l) {i : Nat} (hi : i < len) :
    ∃ b o x, a = some ⟨b, o, none⟩ ∧ l[i]? = some x ∧ w.cell? ⟨b, o + i * 4, none⟩ = some (.int .i64 x.i) ∧ w.cell? ⟨b, o + i * 4 + 1, none⟩ = some (.int .i64 x.o) ∧
      w.cell? ⟨b, o + i * 4 + 2, none⟩ = some (.int .i64 x.w) ∧ w.cell? ⟨b, o + i * 4 + 3, none⟩ = some (.int .i64 x.t) := by
  obtain ⟨b, o, x, ha, hx, hc⟩ := SlAt.at h hi
  refine ⟨b, o, x, ha, hx, ?_, ?_, ?_, ?_⟩
  · simpa [arCells] using hc 0 (by omega)
  · simpa [arCells] using hc 1 (by omega)
  · simpa [arCells] using hc 2 (by omega)
  · simpa [arCells] using hc 3 (by omega)
theorem ArcsAt.opens {w : World} {v : Value} {l : List Ar} (h : ArcsAt w v l) :
    ∃ a len cap, v = .slice a len cap ∧ len ≤ 4398046511104 ∧ Hid (ArcsAt w (.slice a len cap) l) ∧ Hid (l.length = len) := by
  obtain ⟨a, cap, rfl⟩ := SlAt.val h
  exact ⟨a, _, cap, rfl, by have := SlAt.lt h; omega, h, (rfl : l.length = l.length)⟩
theorem ArcsAt.mono {w w' : World} {v : Value} {l : List Ar} (h : ArcsAt w v l) (hb : Below w.heap.size w w') : ArcsAt w' v l := SlAt.mono h hb (by omega) arCells_len

theorem StatesAt.at {w : World} {a : Option Addr} {len cap : Nat} {l : List St} (h : StatesAt w (.slice a len cap) l) {i : Nat} (hi : i < len) :
    ∃ b o x av, a = some ⟨b, o, none⟩ ∧ l[i]? = some x ∧ w.cell? ⟨b, o + i * 2, none⟩ = some (.int .i64 x.fin) ∧ w.cell? ⟨b, o + i * 2 + 1, none⟩ = some av ∧ ArcsAt w av x.arcs := by
  obtain ⟨ts, rfl, hs, hall⟩ := h
  obtain ⟨b, o, x, ha, hx, hc⟩ := SlAt.at hs hi
  refine ⟨b, o, ⟨x.1, x.2.2⟩, x.2.1, ha, by simp [hx], ?_, ?_, hall x (List.mem_of_getElem? hx)⟩
  · simpa [stCells] using hc 0 (by omega)
  · simpa [stCells] using hc 1 (by omega)
theorem StatesAt.opens {w : World} {v : Value} {l : List St} (h : StatesAt w v l) :
    ∃ a len cap, v = .slice a len cap ∧ len ≤ 4398046511104 ∧ Hid (StatesAt w (.slice a len cap) l) ∧ Hid (l.length = len) := by
  obtain ⟨ts, rfl, hs, hall⟩ := h
  obtain ⟨a, cap, rfl⟩ := SlAt.val hs
  exact ⟨a, _, cap, rfl, by have := SlAt.lt hs; omega, ⟨ts, rfl, hs, hall⟩, by simp [Hid]⟩
theorem StatesAt.mono {w w' : World} {v : Value} {l : List St} (h : StatesAt w v l) (hb : Below w.heap.size w w') : StatesAt w' v l := by
  obtain ⟨ts, rfl, hs, hall⟩ := h
  exact ⟨ts, rfl, hs.mono hb (by omega) stCells_len, fun x hx => (hall x hx).mono hb⟩
theorem MachAt.opens {w : World} {v : Value} {m : Mach} (h : MachAt w v m) :
    ∃ a len cap, v = .agg #[.int .i64 m.start, .slice a len cap] ∧ len ≤ 4398046511104 ∧ Hid (StatesAt w (.slice a len cap) m.states) ∧ Hid (m.states.length = len) := by
  obtain ⟨sv, rfl, hs⟩ := h
  obtain ⟨a, len, cap, rfl, h1, h2, h3⟩ := hs.opens
  exact ⟨a, len, cap, rfl, h1, h2, h3⟩
theorem MachAt.mono {w w' : World} {v : Value} {m : Mach} (h : MachAt w v m) (hb : Below w.heap.size w w') : MachAt w' v m := by
  obtain ⟨sv, rfl, hs⟩ := h
  exact ⟨sv, rfl, hs.mono hb⟩

theorem _root_.Go.World.ownsRow.frame {w w' : World} {base : Nat} {e : TypeId} {sz : Nat} {v : Value} {n : Nat} {xs : List Value} (h : w.ownsRow base e sz v n xs) (hk : ∀ k, v.ownBlock = some k → w'.heap[k]? = w.heap[k]?) : w'.ownsRow base e sz v n xs := by
  obtain ⟨h1, h2⟩ := h
  refine ⟨h1, ?_⟩
  rcases h2 with h2 | ⟨g, cap, cur, rfl, hg, hh, r⟩
  · exact .inl h2
  · exact .inr ⟨g, cap, cur, rfl, hg, by rw [hk g rfl]; exact hh, r⟩
theorem _root_.Go.World.ownsRow.lower {w : World} {base b : Nat} {e : TypeId} {sz : Nat} {v : Value} {n : Nat} {xs : List Value} (h : w.ownsRow base e sz v n xs) (hb : b ≤ base) : w.ownsRow b e sz v n xs := by
  obtain ⟨h1, h2⟩ := h
  refine ⟨h1, ?_⟩
  rcases h2 with h2 | ⟨g, cap, cur, rfl, hg, r⟩
  · exact .inl h2
  · exact .inr ⟨g, cap, cur, rfl, by omega, r⟩
theorem _root_.Go.World.ownsRow.slice {w : World} {base : Nat} {e : TypeId} {sz : Nat} {v : Value} {n : Nat} {xs : List Value} (h : w.ownsRow base e sz v n xs) : ∃ a cap, v = .slice a n cap := by
  rcases h.2 with ⟨rfl, rfl⟩ | ⟨g, cap, cur, rfl, _⟩
  · exact ⟨_, _, rfl⟩
  · exact ⟨_, _, rfl⟩

/-- A slice of states that is being built: the states' row is owned, each state's arcs' row is owned, and no two of these rows lie in one block. -/
structure Bld (w : World) (base : Nat) (sv : Value) (ts : List (Int × Value × List Ar)) : Prop where
  own : w.ownsRow base 50 2 sv ts.length (ts.flatMap stCells)
  arcs : ∀ x ∈ ts, w.ownsRow base 54 4 x.2.1 x.2.2.length (x.2.2.flatMap arCells)
  small : ∀ x ∈ ts, x.2.2.length * 32 ≤ 140737488355328
  apart : ∀ x ∈ ts, ∀ k, x.2.1.ownBlock = some k → some k ≠ sv.ownBlock
  pair : ts.Pairwise (fun x y => ∀ k, x.2.1.ownBlock = some k → some k ≠ y.2.1.ownBlock)

section
variable {w w' : World} {base : Nat} {sv v' : Value} {ts : List (Int × Value × List Ar)}

theorem Bld.far (h : Bld w base sv ts) : ∀ k, k < base → some k ≠ sv.ownBlock := by
  intro k hk e
  have := (h.own.lt k e.symm).1
  omega
theorem Bld.arcsAt (h : Bld w base sv ts) : ∀ x ∈ ts, ArcsAt w x.2.1 x.2.2 := fun x hx => SlAt.of_owns arCells_len (h.arcs x hx) (h.small x hx)
theorem stCells_one (f : Int) (a : Option Addr) (n c : Nat) (l : List Ar) : ∀ u ∈ stCells (f, .slice a n c, l), u.oneCell' = true := by simp [stCells, Value.oneCell']

theorem Bld.nil (w : World) (base : Nat) : Bld w base (.slice none 0 0) [] := ⟨World.ownsRow_nil _ _ _ _, by simp, by simp, by simp, by simp⟩

theorem Bld.frame (h : Bld w base sv ts) (hk : ∀ k, base ≤ k → k < w.heap.size → w'.heap[k]? = w.heap[k]?) : Bld w' base sv ts :=
  ⟨h.own.frame fun k hk' => hk k (h.own.lt k hk').1 (h.own.lt k hk').2, fun x hx => (h.arcs x hx).frame fun k hk' => hk k ((h.arcs x hx).lt k hk').1 ((h.arcs x hx).lt k hk').2, h.small, h.apart, h.pair⟩

theorem Bld.below (h : Bld w base sv ts) (hb : Below w.heap.size w w') : Bld w' base sv ts := h.frame fun k _ hk => hb.block k hk

/-- A store below the base. -/
theorem Bld.stored (h : Bld w base sv ts) {p : Addr} (hp : p.block < base) (u : Value) : Bld (w.setCell p u) base sv ts :=
  h.frame fun k hk _ => Below.heap_setCell _ _ _ _ (by omega)

theorem Bld.lower {b : Nat} (h : Bld w base sv ts) (hb : b ≤ base) : Bld w b sv ts :=
  ⟨h.own.lower hb, fun x hx => (h.arcs x hx).lower hb, h.small, h.apart, h.pair⟩

theorem Bld.push (h : Bld w base sv ts) (x : Int × Value × List Ar) (hx : w.ownsRow base 54 4 x.2.1 x.2.2.length (x.2.2.flatMap arCells)) (hs : x.2.2.length * 32 ≤ 140737488355328)
    (hap : ∀ k, x.2.1.ownBlock = some k → some k ≠ sv.ownBlock ∧ ∀ y ∈ ts, some k ≠ y.2.1.ownBlock)
    (hown : w'.ownsRow base 50 2 v' (ts.length + 1) ((ts ++ [x]).flatMap stCells)) (hv : ∃ g cap, v' = .slice (some ⟨g, 0, none⟩) (ts.length + 1) cap ∧ (sv.ownBlock = some g ∨ g = w.heap.size) ∧ g < w'.heap.size) (hg : w.grownBy w' sv.ownBlock) :
    Bld w' base v' (ts ++ [x]) := by
  have hall : ∀ y ∈ ts ++ [x], w.ownsRow base 54 4 y.2.1 y.2.2.length (y.2.2.flatMap arCells) ∧ (y.2.2.length * 32 ≤ 140737488355328) ∧ ∀ k, y.2.1.ownBlock = some k → some k ≠ sv.ownBlock := by
    intro y hy
    rcases List.mem_append.1 hy with hy | hy
    · exact ⟨h.arcs y hy, h.small y hy, h.apart y hy⟩
    · simp only [List.mem_singleton] at hy; subst hy; exact ⟨hx, hs, fun k hk => (hap k hk).1⟩
  refine ⟨by simpa using hown, fun y hy => (hall y hy).1.frame fun k hk => ?_, fun y hy => (hall y hy).2.1, fun y hy k hk => ?_, ?_⟩
  · exact hg.block k ((hall y hy).1.lt k hk).2 ((hall y hy).2.2 k hk)
  · have a3 := (hall y hy).2.2 k hk
    have a2 := ((hall y hy).1.lt k hk).2
    obtain ⟨g, cap, rfl, h1, _⟩ := hv
    simp only [Value.ownBlock, ne_eq, Option.some.injEq]
    rcases h1 with h1 | h1
    · intro e; subst e; exact a3 h1.symm
    · omega
  · rw [List.pairwise_append]
    refine ⟨h.pair, by simp, fun y hy z hz k hk => ?_⟩
    simp only [List.mem_singleton] at hz
    subst hz
    intro e
    exact (hap k e.symm).2 y hy hk.symm

theorem Bld.states (h : Bld w base sv ts) (hl : ts.length * 32 ≤ 140737488355328) : StatesAt w sv (ts.map fun x => ⟨x.1, x.2.2⟩) :=
  ⟨ts, rfl, SlAt.of_owns stCells_len h.own hl, h.arcsAt⟩

/-- A machine of new blocks from base on. -/
def MachNew (w : World) (base : Nat) (v : Value) (m : Mach) : Prop := ∃ sv ts, v = .agg #[.int .i64 m.start, sv] ∧ Bld w base sv ts ∧ ts.map (fun x => (⟨x.1, x.2.2⟩ : St)) = m.states ∧ ts.length * 32 ≤ 140737488355328

theorem MachNew.at {v : Value} {m : Mach} (h : MachNew w base v m) : MachAt w v m := by
  obtain ⟨sv, ts, rfl, hb, hm, hl⟩ := h
  exact ⟨sv, rfl, hm ▸ hb.states hl⟩
theorem MachNew.below {v : Value} {m : Mach} (h : MachNew w base v m) (hb : Below w.heap.size w w') : MachNew w' base v m := by
  obtain ⟨sv, ts, rfl, hB, hm, hl⟩ := h
  exact ⟨sv, ts, rfl, hB.below hb, hm, hl⟩
theorem MachNew.stored {v : Value} {m : Mach} (h : MachNew w base v m) {p : Addr} (hp : p.block < base) (u : Value) : MachNew (w.setCell p u) base v m := by
  obtain ⟨sv, ts, rfl, hB, hm, hl⟩ := h
  exact ⟨sv, ts, rfl, hB.stored hp u, hm, hl⟩
theorem MachNew.lower {b : Nat} {v : Value} {m : Mach} (h : MachNew w base v m) (hb : b ≤ base) : MachNew w b v m := by
  obtain ⟨sv, ts, rfl, hB, hm, hl⟩ := h
  exact ⟨sv, ts, rfl, hB.lower hb, hm, hl⟩
theorem MachNew.nil (w : World) (base : Nat) (n : Int) : MachNew w base (.agg #[.int .i64 n, .slice none 0 0]) ⟨n, []⟩ := ⟨_, [], rfl, Bld.nil _ _, rfl, by simp⟩
theorem MachNew.opens {v : Value} {m : Mach} (h : MachNew w base v m) : ∃ a len cap, v = .agg #[.int .i64 m.start, .slice a len cap] ∧ len ≤ 4398046511104 ∧ Hid (m.states.length = len) := by
  obtain ⟨a, len, cap, h1, h2, _, h3⟩ := MachAt.opens h.at
  exact ⟨a, len, cap, h1, h2, h3⟩
end

/-- A row that a literal has laid is owned. -/
theorem owns_new {α : Type} {cells : α → List Value} {sz : Nat} (hne : ∀ x, (cells x).length = sz) (w : World) (base n : Nat) (e : TypeId) (l : List α) (row : Array Value) (hrow : row = (l.flatMap cells).toArray) (hb : base ≤ w.heap.size) (hn : w.heap.size = n) (hl : l.length ≤ 1000) :
    (w.alloc (.cells row e)).ownsRow base e sz (.slice (some ⟨n, 0, none⟩) l.length l.length) l.length (l.flatMap cells) := by
  subst hn hrow
  refine ⟨flatMap_len hne l, .inr ⟨w.heap.size, l.length, _, rfl, hb, heap_alloc_new w _, Nat.le_refl _, by unfold maxLen; omega, by simp [flatMap_len hne l], ?_⟩⟩
  show (l.flatMap cells).toArray.toList.take _ = _
  exact List.take_of_length_le (Nat.le_of_eq (flatMap_len hne l))
/-- One state more: its arcs' row has been laid since wr. -/
theorem push_step (w wr W w2 : World) (sv v2 : Value) (ts : List (Int × Value × List Ar)) (x : Int × Value × List Ar) (base : Nat) (hbase : w.heap.size ≤ base) (hz : base ≤ wr.heap.size)
    (HB : Bld wr base sv ts) (hbel : Below w.heap.size w wr) (hW : Below wr.heap.size wr W) (hx : W.ownsRow base 54 4 x.2.1 x.2.2.length (x.2.2.flatMap arCells)) (hs : x.2.2.length * 32 ≤ 140737488355328) (hap : ∀ k, x.2.1.ownBlock = some k → wr.heap.size ≤ k)
    (hown2 : w2.ownsRow base 50 2 v2 (ts.length + 1) ((ts ++ [x]).flatMap stCells))
    (hv2 : ∃ g cap, v2 = .slice (some ⟨g, 0, none⟩) (ts.length + 1) cap ∧ (sv.ownBlock = some g ∨ g = W.heap.size) ∧ g < w2.heap.size)
    (hgrow2 : W.grownBy w2 sv.ownBlock) :
    (∀ bb, bb < base → w2.heap[bb]? = wr.heap[bb]?) ∧ Bld w2 base v2 (ts ++ [x]) ∧ Below w.heap.size w w2 ∧ wr.heap.size ≤ w2.heap.size := by
  have hs1 : wr.heap.size ≤ W.heap.size := hW.size
  have hs2 : W.heap.size ≤ w2.heap.size := hgrow2.size
  have hfar := HB.far
  have hfin : ∀ bb, bb < base → w2.heap[bb]? = wr.heap[bb]? := by
    intro bb hbb
    exact (hgrow2.block bb (by omega) (hfar bb hbb)).trans (hW.block bb (by omega))
  refine ⟨hfin, ?_, ?_, by omega⟩
  · refine Bld.push (HB.below hW) x hx hs ?_ hown2 hv2 hgrow2
    intro kk hkk
    have p1 := hap kk hkk
    refine ⟨fun e => ?_, fun y hy e => ?_⟩
    · have := (HB.own.lt kk e.symm).2
      omega
    · have := ((HB.arcs y hy).lt kk e.symm).2
      omega
  · refine hbel.trans ⟨?_, ?_, ?_, by omega, fun bb hbb => hfin bb (by omega)⟩
    · rw [hgrow2.os]; exact hW.os
    · rw [hgrow2.tape]; exact hW.tape
    · rw [hgrow2.output]; exact hW.output
end Go.Proofs.Ythlcginebeapdaa
