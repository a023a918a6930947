/- Part 1 of what the law CertainMakes rests on. -/
import Derived.Test.YthiknkcigcglkaaDoorRows
import Derived.WalkKit
import Derived.WalkSpells
import Derived.WalkLawsBesides
import Derived.Lib.Hide
import Derived.Laws.AppendOwnNone
import Derived.Deep.AppendLies
import Derived.Deep.RegionHeld3
import Derived.Deep.RegionLaw
import Derived.Deep.QuietTactic
import Derived.BigQuiet
import Derived.OrdersHeld
import Derived.Laws.CopyRow
import Derived.Laws.MakeOwn
import Derived.Maps.AppendAt
namespace Go.Proofs.YthiknkcigcglkaaDoor
open Go.RowKit
set_option linter.unusedSimpArgs false
set_option linter.unusedVariables false
set_option maxRecDepth 100000
set_option maxHeartbeats 8000000
@[simp] theorem lt_plus2 (n : Nat) : n < n + 1 + 1 := by omega
@[simp] theorem le_plus2 (n : Nat) : n ≤ n + 1 + 1 := by omega
@[simp] theorem lt_plus3 (n : Nat) : n < n + 1 + 1 + 1 := by omega
@[simp] theorem le_plus3 (n : Nat) : n ≤ n + 1 + 1 + 1 := by omega
@[simp] theorem lt_plus4 (n : Nat) : n < n + 1 + 1 + 1 + 1 := by omega
@[simp] theorem le_plus4 (n : Nat) : n ≤ n + 1 + 1 + 1 + 1 := by omega
@[simp] theorem lt_plus5 (n : Nat) : n < n + 1 + 1 + 1 + 1 + 1 := by omega
@[simp] theorem le_plus5 (n : Nat) : n ≤ n + 1 + 1 + 1 + 1 + 1 := by omega
@[simp] theorem lt_plus6 (n : Nat) : n < n + 1 + 1 + 1 + 1 + 1 + 1 := by omega
@[simp] theorem le_plus6 (n : Nat) : n ≤ n + 1 + 1 + 1 + 1 + 1 + 1 := by omega
@[simp] theorem lt_plus7 (n : Nat) : n < n + 1 + 1 + 1 + 1 + 1 + 1 + 1 := by omega
@[simp] theorem le_plus7 (n : Nat) : n ≤ n + 1 + 1 + 1 + 1 + 1 + 1 + 1 := by omega
@[simp] theorem lt_plus8 (n : Nat) : n < n + 1 + 1 + 1 + 1 + 1 + 1 + 1 + 1 := by omega
@[simp] theorem le_plus8 (n : Nat) : n ≤ n + 1 + 1 + 1 + 1 + 1 + 1 + 1 + 1 := by omega
@[simp] theorem lt_plus9 (n : Nat) : n < n + 1 + 1 + 1 + 1 + 1 + 1 + 1 + 1 + 1 := by omega
@[simp] theorem le_plus9 (n : Nat) : n ≤ n + 1 + 1 + 1 + 1 + 1 + 1 + 1 + 1 + 1 := by omega
@[simp] theorem lt_plus10 (n : Nat) : n < n + 1 + 1 + 1 + 1 + 1 + 1 + 1 + 1 + 1 + 1 := by omega
@[simp] theorem le_plus10 (n : Nat) : n ≤ n + 1 + 1 + 1 + 1 + 1 + 1 + 1 + 1 + 1 + 1 := by omega
@[simp] theorem le_of_lt_s (a n : Nat) (h : a < n) : a ≤ n := by omega
@[simp] theorem ne_of_lt_s (a n : Nat) (h : a < n) : ¬ a = n := by omega
@[simp] theorem lt_past1 (a n : Nat) (h : a < n) : a < n + 1 := by omega
@[simp] theorem le_past1 (a n : Nat) (h : a < n) : a ≤ n + 1 := by omega
@[simp] theorem ne_past1 (a n : Nat) (h : a < n) : ¬ a = n + 1 := by omega
@[simp] theorem lt_past2 (a n : Nat) (h : a < n) : a < n + 1 + 1 := by omega
@[simp] theorem le_past2 (a n : Nat) (h : a < n) : a ≤ n + 1 + 1 := by omega
@[simp] theorem ne_past2 (a n : Nat) (h : a < n) : ¬ a = n + 1 + 1 := by omega
@[simp] theorem lt_past3 (a n : Nat) (h : a < n) : a < n + 1 + 1 + 1 := by omega
@[simp] theorem le_past3 (a n : Nat) (h : a < n) : a ≤ n + 1 + 1 + 1 := by omega
@[simp] theorem ne_past3 (a n : Nat) (h : a < n) : ¬ a = n + 1 + 1 + 1 := by omega
@[simp] theorem lt_past4 (a n : Nat) (h : a < n) : a < n + 1 + 1 + 1 + 1 := by omega
@[simp] theorem le_past4 (a n : Nat) (h : a < n) : a ≤ n + 1 + 1 + 1 + 1 := by omega
@[simp] theorem ne_past4 (a n : Nat) (h : a < n) : ¬ a = n + 1 + 1 + 1 + 1 := by omega
@[simp] theorem lt_past5 (a n : Nat) (h : a < n) : a < n + 1 + 1 + 1 + 1 + 1 := by omega
@[simp] theorem le_past5 (a n : Nat) (h : a < n) : a ≤ n + 1 + 1 + 1 + 1 + 1 := by omega
@[simp] theorem ne_past5 (a n : Nat) (h : a < n) : ¬ a = n + 1 + 1 + 1 + 1 + 1 := by omega
@[simp] theorem lt_past6 (a n : Nat) (h : a < n) : a < n + 1 + 1 + 1 + 1 + 1 + 1 := by omega
@[simp] theorem le_past6 (a n : Nat) (h : a < n) : a ≤ n + 1 + 1 + 1 + 1 + 1 + 1 := by omega
@[simp] theorem ne_past6 (a n : Nat) (h : a < n) : ¬ a = n + 1 + 1 + 1 + 1 + 1 + 1 := by omega
@[simp] theorem lt_past7 (a n : Nat) (h : a < n) : a < n + 1 + 1 + 1 + 1 + 1 + 1 + 1 := by omega
@[simp] theorem le_past7 (a n : Nat) (h : a < n) : a ≤ n + 1 + 1 + 1 + 1 + 1 + 1 + 1 := by omega
@[simp] theorem ne_past7 (a n : Nat) (h : a < n) : ¬ a = n + 1 + 1 + 1 + 1 + 1 + 1 + 1 := by omega
@[simp] theorem lt_past8 (a n : Nat) (h : a < n) : a < n + 1 + 1 + 1 + 1 + 1 + 1 + 1 + 1 := by omega
@[simp] theorem le_past8 (a n : Nat) (h : a < n) : a ≤ n + 1 + 1 + 1 + 1 + 1 + 1 + 1 + 1 := by omega
@[simp] theorem ne_past8 (a n : Nat) (h : a < n) : ¬ a = n + 1 + 1 + 1 + 1 + 1 + 1 + 1 + 1 := by omega
theorem Below.drewN {B : Nat} {a w : World} (h : Below B a w) (n : Nat) : Below B a (w.drewN n) := ⟨h.os, h.tape, h.output, h.size, h.block⟩
theorem Below.d1 {a w : World} (h : Below a.heap.size a w) : Below a.heap.size a w.drew := h.drew
theorem Below.tr {a b c : World} (h : Below a.heap.size a b) (g : Below b.heap.size b c) : Below a.heap.size a c := h.trans (g.mono h.size)
/-- The value v is a slice whose elements read as l, each by its cells. -/
def SlAt {α : Type} (w : World) (sz bytes : Nat) (cells : α → List Value) (v : Value) (l : List α) : Prop :=
  ∃ a cap, v = .slice a l.length cap ∧ l.length * bytes ≤ 140737488355328 ∧ ((a = none → cap = 0) ∧ l.length ≤ cap) ∧
    ∀ i, i < l.length → ∃ b o x, a = some ⟨b, o, none⟩ ∧ l[i]? = some x ∧ ∀ j, j < sz → w.cell? ⟨b, o + i * sz + j, none⟩ = (cells x)[j]?
section
variable {α : Type} {w w' : World} {sz bytes : Nat} {cells : α → List Value} {v : Value} {l : List α} {a : Option Addr} {len cap : Nat}
theorem SlAt.at (h : SlAt w sz bytes cells (.slice a len cap) l) {i : Nat} (hi : i < len) :
    ∃ b o x, a = some ⟨b, o, none⟩ ∧ l[i]? = some x ∧ ∀ j, j < sz → w.cell? ⟨b, o + i * sz + j, none⟩ = (cells x)[j]? := by
  obtain ⟨a', cap', hv, _, _, hc⟩ := h
  simp only [Value.slice.injEq] at hv
  obtain ⟨rfl, rfl, rfl⟩ := hv
  exact hc i hi
theorem SlAt.val (h : SlAt w sz bytes cells v l) : ∃ a cap, v = .slice a l.length cap := by
  obtain ⟨a', cap', hv, _⟩ := h
  exact ⟨_, _, hv⟩
theorem SlAt.length_eq (h : SlAt w sz bytes cells (.slice a len cap) l) : l.length = len := by
  obtain ⟨a', cap', hv, _⟩ := h
  simp only [Value.slice.injEq] at hv
  exact hv.2.1.symm
theorem SlAt.lt (h : SlAt w sz bytes cells v l) : l.length * bytes ≤ 140737488355328 := by
  obtain ⟨a', cap', hv, hl, _⟩ := h
  exact hl
theorem SlAt.mono (h : SlAt w sz bytes cells v l) (hb : Below w.heap.size w w') (hs : 0 < sz) (hne : ∀ x, (cells x).length = sz) : SlAt w' sz bytes cells v l := by
  obtain ⟨a, cap, hv, hl, hn, hc⟩ := h
  refine ⟨a, cap, hv, hl, hn, fun i hi => ?_⟩
  obtain ⟨b, o, x, ha, hx, hcell⟩ := hc i hi
  refine ⟨b, o, x, ha, hx, fun j hj => ?_⟩
  have h0 := hcell j hj
  have hlt : j < (cells x).length := by rw [hne]; exact hj
  rw [List.getElem?_eq_getElem hlt] at h0 ⊢
  exact (hb.cell (World.block_lt_of_cell? w _ h0)).trans h0
theorem take_snoc {l : List α} {k : Nat} {x : α} (h : l[k]? = some x) : l.take (k + 1) = l.take k ++ [x] := by
  obtain ⟨hlt, rfl⟩ := List.getElem?_eq_some_iff.1 h
  rw [List.take_succ_eq_append_getElem hlt]
theorem flatMap_get (hne : ∀ x, (cells x).length = sz) : ∀ (l : List α) (i : Nat) (x : α), l[i]? = some x → ∀ j, j < sz → (l.flatMap cells)[i * sz + j]? = (cells x)[j]?
  | [], i, x, h, _, _ => by simp at h
  | y :: r, 0, x, h, j, hj => by
    simp at h
    subst h
    rw [List.flatMap_cons, List.getElem?_append_left (by rw [hne]; omega)]
    simp
  | y :: r, i + 1, x, h, j, hj => by
    rw [List.flatMap_cons, List.getElem?_append_right (by rw [hne, Nat.succ_mul]; omega), hne]
    rw [show (i + 1) * sz + j - sz = i * sz + j by rw [Nat.succ_mul]; omega]
    exact flatMap_get hne r i x (by simpa using h) j hj
/-- What is owned reads. -/
theorem SlAt.of_owns {base : Nat} {e : TypeId} (hne : ∀ x, (cells x).length = sz) (h : w.ownsRow base e sz v l.length (l.flatMap cells)) (hb : l.length * bytes ≤ 140737488355328) : SlAt w sz bytes cells v l := by
  obtain ⟨hlen, hr⟩ := id h
  rcases hr with ⟨rfl, h0⟩ | ⟨g, cap, cur, rfl, hbg, hg, hnc, hcm, hcs, htake⟩
  · refine ⟨none, 0, by rw [h0], hb, ⟨fun _ => rfl, by omega⟩, fun i hi => ?_⟩
    omega
  · refine ⟨some ⟨g, 0, none⟩, cap, rfl, hb, ⟨(fun hx => by cases hx), by omega⟩, fun i hi => ⟨g, 0, l[i], rfl, List.getElem?_eq_getElem hi, fun j hj => ?_⟩⟩
    have hlt : i * sz + j < l.length * sz := by
      have : (i + 1) * sz ≤ l.length * sz := Nat.mul_le_mul_right _ hi
      rw [Nat.succ_mul] at this
      omega
    have := h.cellAt (i * sz + j) hlt
    rw [flatMap_get hne l i l[i] (List.getElem?_eq_getElem hi) j hj] at this
    simpa using this
theorem SlAt.nil (w : World) (sz bytes : Nat) (cells : α → List Value) : SlAt w sz bytes cells (.slice none 0 0) [] := ⟨none, 0, rfl, by simp, ⟨fun _ => rfl, Nat.le_refl 0⟩, fun i hi => by simp at hi⟩
end
theorem addr_add (b o k : Nat) : (⟨b, o, none⟩ : Addr).add k = ⟨b, o + k, none⟩ := by
  unfold Addr.add
  split
  · rename_i h; subst h; rfl
  · rfl
theorem SlAt.keep {α : Type} {w w' : World} {sz bytes : Nat} {cells : α → List Value} {v : Value} {l : List α} (h : SlAt w sz bytes cells v l) (hk : ∀ k, v.ownBlock = some k → w'.heap[k]? = w.heap[k]?) : SlAt w' sz bytes cells v l := by
  obtain ⟨a, cap, rfl, hl, hn, hc⟩ := h
  refine ⟨a, cap, rfl, hl, hn, fun i hi => ?_⟩
  obtain ⟨b, o, x, ha, hx, hcell⟩ := hc i hi
  refine ⟨b, o, x, ha, hx, fun j hj => ?_⟩
  subst ha
  rw [World.cell?_of_block (w := w) (hk b rfl)]
  exact hcell j hj
section
variable {α : Type} {P : Program} {w : World} {ops : Array Oper} {rest : List Oper} {o : Oper} {a : Act} {K : Act → World → Prop} {Q : Exit → Act → World → Prop}
end
/-! ### Integers -/
def intCells (x : Int) : List Value := [.int .i64 x]
theorem intCells_len (x : Int) : (intCells x).length = 1 := rfl
def IntsAt (w : World) (v : Value) (xs : List Int) : Prop := SlAt w 1 8 intCells v xs
theorem IntsAt.at {w : World} {a : Option Addr} {len cap : Nat} {xs : List Int} (h : IntsAt w (.slice a len cap) xs) {i : Nat} (hi : i < len) :
    ∃ b o x, a = some ⟨b, o, none⟩ ∧ xs[i]? = some x ∧ w.cell? ⟨b, o + i, none⟩ = some (.int .i64 x) := by
  obtain ⟨b, o, x, ha, hx, hc⟩ := SlAt.at h hi
  exact ⟨b, o, x, ha, hx, by simpa [intCells] using hc 0 (by omega)⟩
theorem IntsAt.lt {w : World} {v : Value} {xs : List Int} (h : IntsAt w v xs) : xs.length ≤ 17592186044416 := by have := SlAt.lt h; omega
theorem IntsAt.mono {w w' : World} {v : Value} {xs : List Int} (h : IntsAt w v xs) (hb : Below w.heap.size w w') : IntsAt w' v xs := SlAt.mono h hb (by omega) intCells_len
section
variable {P : Program} {ops : Array Oper} {Q : Exit → Act → World → Prop} {md : Region.Mode} {S : World → Prop}
variable {z : Nat}
end
/-- Plain data: a value of one cell, or a slice, told row by row. -/
inductive D where
  | p (x : Value)
  | sl (sz bt : Nat) (rows : List (List D))
  | mp (l : List (Value × Value))
  | mm (l : List (Value × List (Value × Value)))
inductive V where
  | d (x : D)
  | ad (row : List D)
  | ref (r o : Nat)
  | own (r sz n : Nat) (z : Bool)
  | que (r sz o n : Nat)
  | agg (l : List V)
  | tup (l : List V)
  | fn (f : FuncId) (l : List V)
  | mp (r N : Nat) (l : List (Value × Value))
  | mq (r N : Nat) (l : List (Value × List D))
  | ifc (t : TypeId) (v : V)
  | mp2 (x : Bool) (r r' N : Nat) (l l' : List (Value × Value))
  | it (r N : Nat) (s : ByteArray) (pos : Nat)
  | mit (r rm N : Nat) (l : List (Value × Value)) (seen : List Nat)
  | mm (r N : Nat) (l : List (Value × List (Value × Value)) × Nat × Option Nat)
  | blk (b N : Nat) (ob : Obj)
  | junk
mutual
def V.has (r : Nat) : V → Bool
  | .d _ => false
  | .ad _ => false
  | .ref k _ => k == r
  | .own k _ _ _ => k == r
  | .que k _ _ _ => k == r
  | .agg l => V.hasL r l
  | .tup l => V.hasL r l
  | .fn _ l => V.hasL r l
  | .mp k _ _ => k == r
  | .mq k _ _ => k == r
  | .ifc _ v => V.has r v
  | .mp2 _ k k' _ _ _ => k == r || k' == r
  | .it k _ _ _ => k == r
  | .mit k k' _ _ _ => k == r || k' == r
  | .mm k _ _ => k == r
  | .blk _ _ _ => false
  | .junk => false
def V.hasL (r : Nat) : List V → Bool
  | [] => false
  | v :: l => V.has r v || V.hasL r l
end
theorem V.hasL_false {r : Nat} : ∀ {l : List V}, V.hasL r l = false ↔ ∀ v ∈ l, V.has r v = false
  | [] => by simp [V.hasL]
  | v :: l => by simp [V.hasL, V.hasL_false (l := l)]
/-- What a map's block holds. -/
def ments (l : List (Value × Value)) : Array MapEntry := (l.zipIdx.map fun x => ({ key := x.1.1, val := x.1.2, born := x.2 } : MapEntry)).toArray
/-- A plain datum, as memory holds it: every cell of it lies in a block that is quiet (q). -/
inductive DRep (w : World) (q : Nat → Prop) : D → Value → Prop
  | p (x : Value) : DRep w q (.p x) x
  | sl (sz bt : Nat) (rows : List (List D)) (a : Option Addr) (cap b o : Nat) (f : Nat → Nat → Value) (hcp : rows.length ≤ cap)
      (ha : rows ≠ [] → a = some ⟨b, o, none⟩ ∧ q b ∧ b < w.heap.size) (hl : rows.length * bt ≤ 140737488355328)
      (hc : ∀ (i j : Nat) (row : List D) (u : D), rows[i]? = some row → row[j]? = some u → w.cell? ⟨b, o + i * sz + j, none⟩ = some (f i j))
      (hr : ∀ (i j : Nat) (row : List D) (u : D), rows[i]? = some row → row[j]? = some u → DRep w q u (f i j)) : DRep w q (.sl sz bt rows) (.slice a rows.length cap)
  | mp (l : List (Value × Value)) (b : Nat) (hq : q b ∧ b < w.heap.size) (hm : w.heap[b]? = some (.map (ments l) l.length)) : DRep w q (.mp l) (.map (some b))
  | mm (l : List (Value × List (Value × Value))) (b : Nat) (bs : List Nat) (hq : q b ∧ b < w.heap.size) (hl : l.length = bs.length) (hqs : ∀ k ∈ bs, q k ∧ k < w.heap.size) (hm : w.heap[b]? = some (.map (ments ((l.map (·.1)).zip (bs.map fun k => .map (some k)))) l.length))
      (hi : ∀ (j : Nat) (x : Value × List (Value × Value)) (k : Nat), l[j]? = some x → bs[j]? = some k → w.heap[k]? = some (.map (ments x.2) x.2.length)) : DRep w q (.mm l) (.map (some b))
/-- Which of a map of maps is meant: the outer one, or one of the inner ones (bs). -/
def mmAt (b : Nat) (bs : List Nat) : Option Nat → Nat
  | none => b
  | some j => bs.getD j b
inductive VRep (w : World) (q : Nat → Prop) (g : Nat → Nat × Nat) : V → Value → Prop
  | d (x : D) (v : Value) (h : DRep w q x v) : VRep w q g (.d x) v
  | ad (row : List D) (b o : Nat) (f : Nat → Value) (hq : q b ∧ b < w.heap.size)
      (hc : ∀ (j : Nat) (u : D), row[j]? = some u → w.cell? ⟨b, o + j, none⟩ = some (f j))
      (hr : ∀ (j : Nat) (u : D), row[j]? = some u → DRep w q u (f j)) : VRep w q g (.ad row) (.pointer (some ⟨b, o, none⟩))
  | ref (r o : Nat) : VRep w q g (.ref r o) (.pointer (some ⟨(g r).1, o, none⟩))
  | own (r sz n : Nat) (hn : n ≤ (g r).2) (hcap : (g r).2 ≤ maxLen) : VRep w q g (.own r sz n false) (.slice (some ⟨(g r).1, 0, none⟩) n (g r).2)
  | ownNil (r sz : Nat) : VRep w q g (.own r sz 0 true) (.slice none 0 0)
  | que (r sz o n : Nat) (a : Option Addr) (cap : Nat) (hn : n ≤ cap) (hcap : cap ≤ maxLen) (h : cap ≠ 0 → a = some ⟨(g r).1, o * sz, none⟩ ∧ cap + o = (g r).2) : VRep w q g (.que r sz o n) (.slice a n cap)
  | agg (l : List V) (cs : List Value) (hlen : l.length = cs.length) (h : ∀ (j : Nat) (u : V) (c : Value), l[j]? = some u → cs[j]? = some c → VRep w q g u c) : VRep w q g (.agg l) (.agg cs.toArray)
  | tup (l : List V) (cs : List Value) (hlen : l.length = cs.length) (h : ∀ (j : Nat) (u : V) (c : Value), l[j]? = some u → cs[j]? = some c → VRep w q g u c) : VRep w q g (.tup l) (.tuple cs.toArray)
  | fn (f : FuncId) (l : List V) (cs : List Value) (hlen : l.length = cs.length) (h : ∀ (j : Nat) (u : V) (c : Value), l[j]? = some u → cs[j]? = some c → VRep w q g u c) : VRep w q g (.fn f l) (.func (.func f) #[] cs.toArray)
  | mp (r N : Nat) (l : List (Value × Value)) (hN : N ≤ (g r).1) (hm : w.heap[(g r).1]? = some (.map (ments l) l.length)) : VRep w q g (.mp r N l) (.map (some (g r).1))
  | mq (r N : Nat) (l : List (Value × List D)) (vs : List (List Value)) (hN : N ≤ (g r).1) (hl : l.length = vs.length) (hll : ∀ (j : Nat) (x : Value × List D) (y : List Value), l[j]? = some x → vs[j]? = some y → x.2.length = y.length) (hr : ∀ (j : Nat) (x : Value × List D) (y : List Value) (i : Nat) (u : D) (z : Value), l[j]? = some x → vs[j]? = some y → x.2[i]? = some u → y[i]? = some z → DRep w q u z)
      (hm : w.heap[(g r).1]? = some (.map (ments ((l.map (·.1)).zip (vs.map fun y => .agg y.toArray))) l.length)) : VRep w q g (.mq r N l) (.map (some (g r).1))
  | ifc (t : TypeId) (v : V) (x : Value) (h : VRep w q g v x) : VRep w q g (.ifc t v) (.iface t x)
  | mp2 (x : Bool) (r r' N : Nat) (l l' : List (Value × Value)) (hN : N ≤ (g r).1) (hN' : N ≤ (g r').1) (hne : (g r).1 ≠ (g r').1) (hm : w.heap[(g r).1]? = some (.map (ments l) l.length)) (hm' : w.heap[(g r').1]? = some (.map (ments l') l'.length)) : VRep w q g (.mp2 x r r' N l l') (.map (some (g (if x then r' else r)).1))
  | it (r N : Nat) (s : ByteArray) (pos : Nat) (hN : N ≤ (g r).1) (hm : w.heap[(g r).1]? = some (.stringIter s pos)) : VRep w q g (.it r N s pos) (.pointer (some ⟨(g r).1, 0, none⟩))
  | mit (r rm N : Nat) (l : List (Value × Value)) (seen : List Nat) (hN : N ≤ (g r).1) (hm : w.heap[(g r).1]? = some (.mapIter (some (g rm).1) l.length seen.toArray l.length)) (hmm : w.heap[(g rm).1]? = some (.map (ments l) l.length)) : VRep w q g (.mit r rm N l seen) (.pointer (some ⟨(g r).1, 0, none⟩))
  | mm (r N : Nat) (l : List (Value × List (Value × Value)) × Nat × Option Nat) (bs : List Nat) (hN : N ≤ (g r).1) (hl : l.1.length = bs.length ∧ l.2.1 ≤ l.1.length) (hbs : ∀ k ∈ bs, N ≤ k ∧ k ≠ (g r).1) (hnd : bs.Nodup) (hm : w.heap[(g r).1]? = some (.map (ments (((l.1.map (·.1)).zip (bs.map fun k => .map (some k))).take l.2.1)) l.2.1))
      (hi : ∀ (j : Nat) (x : Value × List (Value × Value)) (k : Nat), l.1[j]? = some x → bs[j]? = some k → w.heap[k]? = some (.map (ments x.2) x.2.length)) : VRep w q g (.mm r N l) (.map (some (mmAt (g r).1 bs l.2.2)))
  | blk (b N : Nat) (ob : Obj) (v : Value) (hN : N ≤ b) (hno : ∀ cs ty fz, ob ≠ .cells cs ty fz) (hm : w.heap[b]? = some ob) : VRep w q g (.blk b N ob) v
  | junk (v : Value) : VRep w q g .junk v
/-- Quiet cells are as they were. -/
def Cells (w w' : World) (q : Nat → Prop) : Prop := w.heap.size ≤ w'.heap.size ∧ (∀ (b o : Nat) (u : Value), q b → b < w.heap.size → w.cell? ⟨b, o, none⟩ = some u → w'.cell? ⟨b, o, none⟩ = some u) ∧ ∀ (b : Nat) (ob : Obj), (∀ cs ty fz, ob ≠ .cells cs ty fz) → w.heap[b]? = some ob → w'.heap[b]? = some ob
theorem Cells.map {w w' : World} {q : Nat → Prop} (hw : Cells w w' q) {b : Nat} {es : Array MapEntry} {k : Nat} (h : w.heap[b]? = some (.map es k)) : w'.heap[b]? = some (.map es k) := hw.2.2 _ _ (fun _ _ _ h => by cases h) h
theorem Cells.rfl {w : World} {q : Nat → Prop} : Cells w w q := ⟨Nat.le_refl _, fun _ _ _ _ _ h => h, fun _ _ _ h => h⟩
theorem Below.maps {w w' : World} (hb : Below w.heap.size w w') : ∀ (b : Nat) (ob : Obj), (∀ cs ty fz, ob ≠ .cells cs ty fz) → w.heap[b]? = some ob → w'.heap[b]? = some ob := fun b ob _ h => (hb.block _ (Array.getElem?_eq_some_iff.1 h).1).trans h
theorem DRep.mono {w w' : World} {q q' : Nat → Prop} {x : D} {v : Value} (h : DRep w q x v) (hw : Cells w w' q) (hq : ∀ b, q b → b < w.heap.size → q' b) : DRep w' q' x v := by
  induction h with
  | p x => exact .p x
  | sl sz bt rows a cap b o f hcp ha hl hc hr ih =>
    refine .sl sz bt rows a cap b o f hcp (fun hne => ?_) hl (fun i j row u h1 h2 => ?_) ih
    · obtain ⟨h1, h2, h3⟩ := ha hne
      exact ⟨h1, hq b h2 h3, Nat.lt_of_lt_of_le h3 hw.1⟩
    · have hne : rows ≠ [] := by rintro rfl; simp at h1
      obtain ⟨_, h4, h5⟩ := ha hne
      exact hw.2.1 b _ _ h4 h5 (hc i j row u h1 h2)
  | mp l b hb hm => exact .mp l b ⟨hq b hb.1 hb.2, Nat.lt_of_lt_of_le hb.2 hw.1⟩ (hw.map hm)
  | mm l b bs hb hl hqs hm hi => exact .mm l b bs ⟨hq b hb.1 hb.2, Nat.lt_of_lt_of_le hb.2 hw.1⟩ hl (fun k hk => ⟨hq k (hqs k hk).1 (hqs k hk).2, Nat.lt_of_lt_of_le (hqs k hk).2 hw.1⟩) (hw.map hm) fun j x k h1 h2 => hw.map (hi j x k h1 h2)
theorem VRep.mono {w w' : World} {q q' : Nat → Prop} {g g' : Nat → Nat × Nat} {x : V} {v : Value} (h : VRep w q g x v) (hw : Cells w w' q) (hq : ∀ b, q b → b < w.heap.size → q' b)
    (hg : ∀ r, x.has r = true → g' r = g r) : VRep w' q' g' x v := by
  induction h with
  | d x v h => exact .d x v (h.mono hw hq)
  | ad row b o f hb hc hr => exact .ad row b o f ⟨hq b hb.1 hb.2, Nat.lt_of_lt_of_le hb.2 hw.1⟩ (fun j u hu => hw.2.1 b _ _ hb.1 hb.2 (hc j u hu)) (fun j u hu => (hr j u hu).mono hw hq)
  | ref r o =>
    rw [← hg r (by simp [V.has])]
    exact .ref r o
  | own r sz n hn hcap =>
    have e := hg r (by simp [V.has])
    rw [← e] at hn hcap ⊢
    exact .own r sz n hn hcap
  | ownNil r sz => exact .ownNil r sz
  | que r sz o n a cap hn hcap h =>
    have e := hg r (by simp [V.has])
    rw [← e] at h
    exact .que r sz o n a cap hn hcap h
  | agg l cs hlen h ih =>
    refine .agg l cs hlen fun j u c h1 h2 => ih j u c h1 h2 fun r hr => hg r ?_
    cases hh : V.has r (.agg l) with
    | true => rfl
    | false =>
      simp only [V.has] at hh
      rw [V.hasL_false.1 hh u (List.mem_of_getElem? h1)] at hr
      exact hr
  | tup l cs hlen h ih =>
    refine .tup l cs hlen fun j u c h1 h2 => ih j u c h1 h2 fun r hr => hg r ?_
    cases hh : V.has r (.tup l) with
    | true => rfl
    | false =>
      simp only [V.has] at hh
      rw [V.hasL_false.1 hh u (List.mem_of_getElem? h1)] at hr
      exact hr
  | fn f l cs hlen h ih =>
    refine .fn f l cs hlen fun j u c h1 h2 => ih j u c h1 h2 fun r hr => hg r ?_
    cases hh : V.has r (.fn f l) with
    | true => rfl
    | false =>
      simp only [V.has] at hh
      rw [V.hasL_false.1 hh u (List.mem_of_getElem? h1)] at hr
      exact hr
  | mp r N l hN hm =>
    have e := hg r (by simp [V.has])
    rw [← e] at hN hm ⊢
    exact .mp r N l hN (hw.map hm)
  | mq r N l vs hN hl hll hr hm =>
    have e := hg r (by simp [V.has])
    rw [← e] at hN hm ⊢
    exact .mq r N l vs hN hl hll (fun j x y i u z h1 h2 h3 h4 => (hr j x y i u z h1 h2 h3 h4).mono hw hq) (hw.map hm)
  | ifc t v x h ih => exact .ifc t v x (ih fun r hr => hg r (by simpa [V.has] using hr))
  | mp2 x r r' N l l' hN hN' hne hm hm' =>
    have e := hg r (by simp [V.has])
    have e' := hg r' (by simp [V.has])
    have e2 : (g (if x then r' else r)).1 = (g' (if x then r' else r)).1 := by cases x <;> simp [e, e']
    rw [e2]
    exact .mp2 x r r' N l l' (by rw [e]; exact hN) (by rw [e']; exact hN') (by rw [e, e']; exact hne) (by rw [e]; exact hw.map hm) (by rw [e']; exact hw.map hm')
  | it r N s pos hN hm =>
    have e := hg r (by simp [V.has])
    rw [← e] at hN hm ⊢
    exact .it r N s pos hN (hw.2.2 _ _ (fun _ _ _ h => by cases h) hm)
  | mit r rm N l seen hN hm hmm =>
    have e := hg r (by simp [V.has])
    have e' := hg rm (by simp [V.has])
    rw [← e] at hN hm ⊢
    rw [← e'] at hm hmm
    exact .mit r rm N l seen hN (hw.2.2 _ _ (fun _ _ _ h => by cases h) hm) (hw.map hmm)
  | mm r N l bs hN hl hbs hnd hm hi =>
    have e := hg r (by simp [V.has])
    rw [← e] at hN hbs hm ⊢
    exact .mm r N l bs hN hl hbs hnd (hw.map hm) fun j x k h1 h2 => hw.map (hi j x k h1 h2)
  | blk b N ob v hN hno hm => exact .blk b N ob v hN hno (hw.2.2 _ _ hno hm)
  | junk v => exact .junk v
/-- An object that may still be written: the element type of its block, and what its cells hold (nil: there is no block yet). -/
structure Row where
  ty : TypeId
  cells : List V
  nil : Bool
  sz : Nat
def fnd {α : Type} : List (Nat × α) → Nat → Option α
  | [], _ => none
  | (k, v) :: r, i => if k == i then some v else fnd r i
structure S where
  n : Nat
  T : List (Nat × V)
  H : List (Nat × Row)
  K : List V
/-- What does not change in a walk: the program, the world at its beginning, blocks that others write, values that others keep. -/
structure Cx where
  P : Program
  w0 : World
  out : Nat → Prop
  kx : List Value
  ds : List Deferred
/-- The quiet blocks. -/
def qt (c : Cx) (H : List (Nat × Row)) (g : Nat → Nat × Nat) : Nat → Prop := fun b => ¬ c.out b ∧ ∀ r row, fnd H r = some row → row.nil = false → (g r).1 ≠ b
structure Sim (c : Cx) (g : Nat → Nat × Nat) (s : S) (a : Act) (w : World) : Prop where
  size : a.tmps.size = s.n
  defers : a.defers = c.ds
  tmp : ∀ (i : Nat) (v : V), fnd s.T i = some v → ∃ x, a.tmps[i]? = some x ∧ VRep w (qt c s.H g) g v x
  nul : ∀ (r : Nat) (row : Row), fnd s.H r = some row → row.nil = true → row.cells = []
  obj : ∀ (r : Nat) (row : Row), fnd s.H r = some row → row.nil = false → ∃ arr : Array Value, w.heap[(g r).1]? = some (.cells arr row.ty (0, 0)) ∧ (row.sz ≠ 0 → arr.size = (g r).2 * row.sz) ∧ ∀ (j : Nat) (v : V), row.cells[j]? = some v → ∃ x, arr[j]? = some x ∧ VRep w (qt c s.H g) g v x
  keep : ∀ (j : Nat) (v : V) (x : Value), s.K[j]? = some v → c.kx[j]? = some x → VRep w (qt c s.H g) g v x
  inj : ∀ r r' row row', fnd s.H r = some row → row.nil = false → fnd s.H r' = some row' → row'.nil = false → (g r).1 = (g r').1 → r = r'
  base : ∀ r row, fnd s.H r = some row → row.nil = false → c.w0.heap.size ≤ (g r).1
  low : ∀ b, c.out b → b < c.w0.heap.size
  below : Below c.w0.heap.size c.w0 w
/-- Nothing in a state speaks of object r. -/
def S.clean (s : S) (r : Nat) : Bool := s.T.all (fun x => !x.2.has r) && s.H.all (fun x => x.1 != r && !V.hasL r x.2.cells) && !V.hasL r s.K
theorem fnd_mem {α : Type} : ∀ {l : List (Nat × α)} {i : Nat} {v : α}, fnd l i = some v → (i, v) ∈ l
  | [], _, _, h => by simp [fnd] at h
  | (k, u) :: r, i, v, h => by
    simp only [fnd] at h
    split at h
    · rename_i hk
      simp only [beq_iff_eq] at hk
      simp only [Option.some.injEq] at h
      subst hk h
      exact List.mem_cons_self
    · exact List.mem_cons_of_mem _ (fnd_mem h)
section
variable {c : Cx} {g : Nat → Nat × Nat} {s : S} {a : Act} {w : World}
theorem S.clean_tmp {r : Nat} (h : s.clean r = true) {i : Nat} {v : V} (hv : fnd s.T i = some v) : v.has r = false := by
  simp only [S.clean, Bool.and_eq_true, List.all_eq_true, Bool.not_eq_true'] at h
  exact h.1.1 _ (fnd_mem hv)
theorem S.clean_obj {r : Nat} (h : s.clean r = true) {i : Nat} {row : Row} (hv : fnd s.H i = some row) : i ≠ r ∧ ∀ v ∈ row.cells, v.has r = false := by
  simp only [S.clean, Bool.and_eq_true, List.all_eq_true, Bool.not_eq_true'] at h
  have := h.1.2 _ (fnd_mem hv)
  simp only [Bool.and_eq_true, bne_iff_ne, ne_eq, Bool.not_eq_true'] at this
  exact ⟨this.1, V.hasL_false.1 this.2⟩
theorem S.clean_keep {r : Nat} (h : s.clean r = true) {i : Nat} {v : V} (hv : s.K[i]? = some v) : v.has r = false := by
  simp only [S.clean, Bool.and_eq_true, List.all_eq_true, Bool.not_eq_true'] at h
  exact V.hasL_false.1 h.2 v (List.mem_of_getElem? hv)
/-- What a state says of an operand. -/
def S.ev (s : S) : Operand → Option V
  | .tmp t => fnd s.T t
  | .const v => some (.d (.p v))
  | .global g => some (.d (.p (.pointer (some ⟨g, 0, none⟩))))
  | .func f => some (.fn f [])
theorem Sim.ev (h : Sim c g s a w) {x : Operand} {v : V} (hv : s.ev x = some v) : VRep w (qt c s.H g) g v (a.eval x) := by
  cases x with
  | tmp t =>
    obtain ⟨y, h1, h2⟩ := h.tmp t v hv
    have : a.eval (.tmp t) = y := by simp [Act.eval, Array.getD_eq_getD_getElem?, h1]
    rw [this]; exact h2
  | const v =>
    simp only [S.ev, Option.some.injEq] at hv
    subst hv
    exact .d _ _ (.p _)
  | global g =>
    simp only [S.ev, Option.some.injEq] at hv
    subst hv
    exact .d _ _ (.p _)
  | func f =>
    simp only [S.ev, Option.some.injEq] at hv
    subst hv
    exact .fn f [] [] rfl (by simp)
def S.put (s : S) (d : Option Tmp) (v : V) : S :=
  match d with
  | some d => { s with T := (d, v) :: s.T }
  | none => s
theorem Sim.put (h : Sim c g s a w) (d : Option Tmp) {v : V} {x : Value} (hd : ∀ k, d = some k → k < s.n) (hv : VRep w (qt c s.H g) g v x) : Sim c g (s.put d v) (a.put d x) w := by
  cases d with
  | none => exact h
  | some d =>
    have hd := hd d rfl
    refine ⟨by simpa [Act.put, S.put] using h.size, by simpa [Act.put] using h.defers, ?_, h.nul, h.obj, h.keep, h.inj, h.base, h.low, h.below⟩
    intro i u hu
    simp only [S.put, fnd] at hu
    split at hu
    · rename_i hk
      simp only [beq_iff_eq] at hk
      subst hk
      simp only [Option.some.injEq] at hu
      subst hu
      exact ⟨x, by simp [Act.put, h.size, hd], hv⟩
    · rename_i hk
      obtain ⟨y, h1, h2⟩ := h.tmp i u hu
      refine ⟨y, ?_, h2⟩
      simp only [Act.put]
      rw [Array.getElem?_setIfInBounds_ne (by simpa using hk)]
      exact h1
/-- A value that says less. -/
inductive Wk : V → V → Prop
  | refl (v : V) : Wk v v
  | junk (v : V) : Wk .junk v
  | nil (sz bt : Nat) : Wk (.d (.sl sz bt [])) (.d (.p (.slice none 0 0)))
  | que (r sz n : Nat) : Wk (.que r sz 0 n) (.own r sz n false)
theorem Wk.rep {w : World} {q : Nat → Prop} {g : Nat → Nat × Nat} {v' v : V} {x : Value} (h : Wk v' v) (hv : VRep w q g v x) : VRep w q g v' x := by
  cases h with
  | refl => exact hv
  | junk => exact .junk _
  | nil sz bt =>
    cases hv with
    | d _ _ h =>
      cases h
      exact .d _ _ (.sl sz bt [] none 0 0 0 (fun _ _ => undef) (Nat.le_refl 0) (fun h => absurd rfl h) (by simp) (by simp) (by simp))
  | que r sz n =>
    cases hv with
    | own _ _ _ hn hcap => exact .que r sz 0 n _ _ hn hcap fun _ => ⟨by simp, rfl⟩
/-- A state that says less. -/
structure Less (s' s : S) : Prop where
  n : s'.n = s.n
  T : ∀ (i : Nat) (v : V), fnd s'.T i = some v → ∃ u, fnd s.T i = some u ∧ Wk v u
  H : ∀ (r : Nat) (row' : Row), fnd s'.H r = some row' → ∃ row, fnd s.H r = some row ∧ row'.ty = row.ty ∧ row'.nil = row.nil ∧ row'.sz = row.sz ∧ ∀ (j : Nat) (v : V), row'.cells[j]? = some v → ∃ u, row.cells[j]? = some u ∧ Wk v u
  K : ∀ (j : Nat) (v : V), s'.K[j]? = some v → ∃ u, s.K[j]? = some u ∧ Wk v u
theorem Sim.less (h : Sim c g s a w) {s' : S} (hl : Less s' s) : Sim c g s' a w := by
  have hq : ∀ b, qt c s.H g b → b < w.heap.size → qt c s'.H g b := fun b hb _ => ⟨hb.1, fun r row' hr hn => by obtain ⟨row, h1, _, h2, _, _⟩ := hl.H r row' hr; exact hb.2 r row h1 (h2 ▸ hn)⟩
  have hm : ∀ {v x}, VRep w (qt c s.H g) g v x → VRep w (qt c s'.H g) g v x := fun hv => hv.mono Cells.rfl hq (fun r _ => rfl)
  refine ⟨by rw [hl.n]; exact h.size, h.defers, ?_, ?_, ?_, ?_, ?_, ?_, h.low, h.below⟩
  · intro i v hv
    obtain ⟨u, h1, h2⟩ := hl.T i v hv
    obtain ⟨x, h3, h4⟩ := h.tmp i u h1
    exact ⟨x, h3, h2.rep (hm h4)⟩
  · intro r row' hr hn
    obtain ⟨row, h1, h2, h3, _, h4⟩ := hl.H r row' hr
    have h0 := h.nul r row h1 (h3 ▸ hn)
    cases hc : row'.cells with
    | nil => rfl
    | cons v l =>
      obtain ⟨u, h5, _⟩ := h4 0 v (by simp [hc])
      simp [h0] at h5
  · intro r row' hr hn
    obtain ⟨row, h1, h2, h3, hz, h4⟩ := hl.H r row' hr
    obtain ⟨arr, h5, hzz, h6⟩ := h.obj r row h1 (h3 ▸ hn)
    refine ⟨arr, by rw [h2]; exact h5, by rw [hz]; exact hzz, fun j v hv => ?_⟩
    obtain ⟨u, h7, h8⟩ := h4 j v hv
    obtain ⟨x, h9, h10⟩ := h6 j u h7
    exact ⟨x, h9, h8.rep (hm h10)⟩
  · intro j v x h1 h2
    obtain ⟨u, h3, h4⟩ := hl.K j v h1
    exact h4.rep (hm (h.keep j u x h3 h2))
  · intro r r' row row' h1 n1 h2 n2 h3
    obtain ⟨_, k1, _, m1, _, _⟩ := hl.H r row h1
    obtain ⟨_, k2, _, m2, _, _⟩ := hl.H r' row' h2
    exact h.inj r r' _ _ k1 (m1 ▸ n1) k2 (m2 ▸ n2) h3
  · intro r row h1 n1
    obtain ⟨_, k1, _, m1, _, _⟩ := hl.H r row h1
    exact h.base r _ k1 (m1 ▸ n1)
/-- Another world in which nothing that a state speaks of has changed. -/
theorem Sim.move (h : Sim c g s a w) {w' : World} (hb : Below w.heap.size w w') : Sim c g s a w' := by
  have hw : Cells w w' (qt c s.H g) := ⟨hb.size, fun b o u _ h1 h2 => (hb.cell (p := ⟨b, o, none⟩) h1).trans h2, Below.maps hb⟩
  have hlt : ∀ {b o}, w.heap[b]? = some o → b < w.heap.size := fun h => (Array.getElem?_eq_some_iff.1 h).1
  have hm : ∀ {v x}, VRep w (qt c s.H g) g v x → VRep w' (qt c s.H g) g v x := fun hv => hv.mono hw (fun _ h _ => h) (fun r _ => rfl)
  refine ⟨h.size, h.defers, ?_, h.nul, ?_, ?_, h.inj, h.base, h.low, h.below.trans (hb.mono h.below.size)⟩
  · intro i v hv
    obtain ⟨x, h1, h2⟩ := h.tmp i v hv
    exact ⟨x, h1, hm h2⟩
  · intro r row hr hn
    obtain ⟨arr, h1, hz, h2⟩ := h.obj r row hr hn
    refine ⟨arr, (hb.block _ (hlt h1)).trans h1, hz, fun j v hv => ?_⟩
    obtain ⟨x, h3, h4⟩ := h2 j v hv
    exact ⟨x, h3, hm h4⟩
  · intro j v x h1 h2
    exact hm (h.keep j v x h1 h2)
/-- A new object. -/
theorem Sim.new (h : Sim c g s a w) {r cap : Nat} {row : Row} {cs : Array Value} (hr : s.clean r = true) (hnn : row.nil = false) (hrow : V.hasL r row.cells = false) (hcap : row.sz ≠ 0 → cs.size = cap * row.sz) (hlen : ∀ (j : Nat) (v : V), row.cells[j]? = some v → ∃ x, cs[j]? = some x ∧ VRep w (qt c s.H g) g v x) :
    Sim c (fun k => if k = r then (w.heap.size, cap) else g k) { s with H := (r, row) :: s.H } a (w.alloc (.cells cs row.ty)) ∧
    ∀ v x, v.has r = false → VRep w (qt c s.H g) g v x → VRep (w.alloc (.cells cs row.ty)) (qt c ((r, row) :: s.H) (fun k => if k = r then (w.heap.size, cap) else g k)) (fun k => if k = r then (w.heap.size, cap) else g k) v x := by
  have hb : Below w.heap.size w (w.alloc (.cells cs row.ty)) := (Below.refl _ _).alloc (Nat.le_refl _) _
  have hlt : ∀ {b o}, w.heap[b]? = some o → b < w.heap.size := fun h => (Array.getElem?_eq_some_iff.1 h).1
  have hw : Cells w (w.alloc (.cells cs row.ty)) (qt c s.H g) := ⟨hb.size, fun b o u _ h1 h2 => (hb.cell (p := ⟨b, o, none⟩) h1).trans h2, Below.maps hb⟩
  have hfr : ∀ k row', fnd s.H k = some row' → k ≠ r := fun k row' hk => (S.clean_obj hr hk).1
  have hq : ∀ b, qt c s.H g b → b < w.heap.size → qt c ((r, row) :: s.H) (fun k => if k = r then (w.heap.size, cap) else g k) b := by
    intro b hb hlt
    refine ⟨hb.1, fun k row' hk hn => ?_⟩
    by_cases e : k = r
    · simp only [e, if_true]; omega
    · simp only [e, if_false]
      simp only [fnd, beq_iff_eq, Ne.symm e, if_false] at hk
      exact hb.2 k row' hk hn
  have hm : ∀ v x, v.has r = false → VRep w (qt c s.H g) g v x → VRep (w.alloc (.cells cs row.ty)) (qt c ((r, row) :: s.H) (fun k => if k = r then (w.heap.size, cap) else g k)) (fun k => if k = r then (w.heap.size, cap) else g k) v x := by
    intro v x hv hx
    refine hx.mono hw hq fun k hk => ?_
    have e : k ≠ r := by rintro rfl; rw [hv] at hk; cases hk
    simp [e]
  refine ⟨⟨h.size, h.defers, ?_, ?_, ?_, ?_, ?_, ?_, h.low, h.below.trans (hb.mono h.below.size)⟩, hm⟩
  · intro i v hv
    obtain ⟨x, h1, h2⟩ := h.tmp i v hv
    exact ⟨x, h1, hm v x (S.clean_tmp hr hv) h2⟩
  · intro k row' hk hn
    by_cases e : k = r
    · subst e
      simp only [fnd, beq_self_eq_true, if_true, Option.some.injEq] at hk
      subst hk
      rw [hnn] at hn
      cases hn
    · simp only [fnd, beq_iff_eq, Ne.symm e, if_false] at hk
      exact h.nul k row' hk hn
  · intro k row' hk hn
    by_cases e : k = r
    · subst e
      simp only [fnd, beq_self_eq_true, if_true, Option.some.injEq] at hk
      subst hk
      refine ⟨cs, by simp only [if_true]; exact heap_alloc_new w _, by simpa using hcap, fun j v hv => ?_⟩
      obtain ⟨x, h1, h2⟩ := hlen j v hv
      exact ⟨x, h1, hm v x (V.hasL_false.1 hrow v (List.mem_of_getElem? hv)) h2⟩
    · simp only [fnd, beq_iff_eq, Ne.symm e, if_false] at hk
      obtain ⟨arr, h1, hz, h2⟩ := h.obj k row' hk hn
      refine ⟨arr, by simp only [e, if_false]; exact (hb.block _ (hlt h1)).trans h1, by simpa only [e, if_false] using hz, fun j v hv => ?_⟩
      obtain ⟨x, h3, h4⟩ := h2 j v hv
      exact ⟨x, h3, hm v x ((S.clean_obj hr hk).2 v (List.mem_of_getElem? hv)) h4⟩
  · intro j v x h1 h2
    exact hm v x (S.clean_keep hr h1) (h.keep j v x h1 h2)
  · intro k k' row1 row2 h1 n1 h2 n2 h3
    by_cases e : k = r
    · by_cases e' : k' = r
      · rw [e, e']
      · simp only [fnd, beq_iff_eq, Ne.symm e', if_false] at h2
        obtain ⟨arr, h4, _⟩ := h.obj k' _ h2 n2
        have := hlt h4
        simp only [e, e', if_true, if_false] at h3
        omega
    · simp only [fnd, beq_iff_eq, Ne.symm e, if_false] at h1
      by_cases e' : k' = r
      · obtain ⟨arr, h4, _⟩ := h.obj k _ h1 n1
        have := hlt h4
        simp only [e, e', if_true, if_false] at h3
        omega
      · simp only [fnd, beq_iff_eq, Ne.symm e', if_false] at h2
        simp only [e, e', if_false] at h3
        exact h.inj k k' _ _ h1 n1 h2 n2 h3
  · intro k row' hk hn
    by_cases e : k = r
    · simp only [e, if_true]; exact h.below.size
    · simp only [fnd, beq_iff_eq, Ne.symm e, if_false] at hk
      simp only [e, if_false]
      exact h.base k _ hk hn
end
def QQ (c : Cx) (Q : Exit → S → Prop) : Exit → Act → World → Prop := fun e a w => ∃ g s, Q e s ∧ Sim c g s a w
/-- From any act and world that are as s says, the code ends as Q says. -/
def AW (c : Cx) (code : Code) (Q : Exit → S → Prop) (s : S) : Prop := ∀ g a w, Sim c g s a w → code.wp c.P (QQ c Q) a w
def AL (c : Cx) (ops : Array Oper) (l : List Oper) (Q : Exit → S → Prop) (s : S) : Prop := ∀ g a w, Sim c g s a w → wpList c.P ops (QQ c Q) l a w
def thenS (next : S → Prop) (Q : Exit → S → Prop) : Exit → S → Prop
  | .normal, s => next s
  | e, s => Q e s
def inBlockS (id : Nat) (Q : Exit → S → Prop) : Exit → S → Prop
  | .exit id', s => if id' = id then Q .normal s else Q (.exit id') s
  | e, s => Q e s
section
variable {c : Cx} {Q Q' : Exit → S → Prop} {s : S}
theorem QQ.mono (h : ∀ e s, Q e s → Q' e s) {e : Exit} {a : Act} {w : World} (hq : QQ c Q e a w) : QQ c Q' e a w := by
  obtain ⟨g, s, h1, h2⟩ := hq
  exact ⟨g, s, h e s h1, h2⟩
theorem AW.mono {x : Code} (h : AW c x Q s) (hq : ∀ e s, Q e s → Q' e s) : AW c x Q' s := fun g a w hs => wp_mono (h g a w hs) fun _ _ _ => QQ.mono hq
theorem AW.less {x : Code} {s' : S} (hl : Less s' s) (h : AW c x Q s') : AW c x Q s := fun g a w hs => h g a w (hs.less hl)
theorem AL.less {ops : Array Oper} {l : List Oper} {s' : S} (hl : Less s' s) (h : AL c ops l Q s') : AL c ops l Q s := fun g a w hs => h g a w (hs.less hl)
theorem AW.seq {x y : Code} (h : AW c x (thenS (AW c y Q) Q) s) : AW c (.seq x y) Q s := fun g a w hs => wp_seq (wp_mono (h g a w hs) fun e a' w' hq => by
  obtain ⟨g', s', h1, h2⟩ := hq
  cases e <;> first | exact h1 g' a' w' h2 | exact ⟨g', s', h1, h2⟩)
/-- What lies between is told by M. -/
theorem AW.seqc {x y : Code} (M : S → Prop) (h : AW c x (thenS (fun s => ∃ s', Less s' s ∧ M s') Q) s) (hM : ∀ s, M s → AW c y Q s) : AW c (.seq x y) Q s :=
  AW.seq (h.mono fun e s hq => by
    cases e
    case normal => obtain ⟨s', h1, h2⟩ := hq; exact AW.less h1 (hM s' h2)
    all_goals exact hq)
theorem AW.skip (h : Q .normal s) : AW c .skip Q s := fun g a w hs => wp_skip ⟨g, s, h, hs⟩
theorem AW.ret (h : Q .ret s) : AW c .ret Q s := fun g a w hs => wp_ret ⟨g, s, h, hs⟩
theorem AW.exit {id : Nat} (h : Q (.exit id) s) : AW c (.exit id) Q s := fun g a w hs => wp_exit ⟨g, s, h, hs⟩
theorem AW.block {id : Nat} {x : Code} (h : AW c x (inBlockS id Q) s) : AW c (.block id x) Q s := fun g a w hs => wp_block (wp_mono (h g a w hs) fun e a' w' hq => by
  obtain ⟨g', s', h1, h2⟩ := hq
  cases e <;> try exact ⟨g', s', h1, h2⟩
  rename_i id'
  simp only [inBlockS] at h1
  simp only [Exit.inBlock]
  split <;> rename_i hh
  · rw [if_pos hh] at h1; exact ⟨g', s', h1, h2⟩
  · rw [if_neg hh] at h1; exact ⟨g', s', h1, h2⟩)
theorem VRep.p_eq {w : World} {q : Nat → Prop} {g : Nat → Nat × Nat} {x y : Value} (h : VRep w q g (.d (.p x)) y) : y = x := by
  cases h with | d _ _ h => cases h; rfl
theorem AW.cond {x : Operand} {t e : Code} {b : Bool} (hc : s.ev x = some (.d (.p (.bool b)))) (ht : b = true → AW c t Q s) (hf : b = false → AW c e Q s) : AW c (.cond x t e) Q s := fun g a w hs =>
  wp_cond_split (VRep.p_eq (hs.ev hc)) (fun h => ht h g a w hs) (fun h => hf h g a w hs)
theorem AW.region {id : Nat} {l : List Oper} (h : AL c l.toArray l Q s) : AW c (.region id l.toArray false) Q s := fun g a w hs => wp_region_lit (h g a w hs)
theorem AL.nil {ops : Array Oper} (h : Q .normal s) : AL c ops [] Q s := fun g a w hs => ⟨g, s, h, hs⟩
theorem least_nat {p : Nat → Prop} (h : ∃ n, p n) : ∃ n, p n ∧ ∀ m, p m → n ≤ m := by
  obtain ⟨n, hn⟩ := h
  induction n using Nat.strongRecOn with
  | _ n ih =>
    by_cases h : ∃ m, m < n ∧ p m
    · obtain ⟨m, h1, h2⟩ := h
      exact ih m h1 h2
    · exact ⟨n, hn, fun m hm => Nat.le_of_not_lt fun hlt => h ⟨m, hlt, hm⟩⟩
open Classical in
/-- A loop: I holds at each round's head, and μ goes down. -/
theorem AW.loop {x : Code} (I : S → Prop) (μ : S → Nat) (h0 : ∃ s', Less s' s ∧ I s')
    (round : ∀ s, I s → AW c x (thenS (fun s' => ∃ s'', Less s'' s' ∧ I s'' ∧ μ s'' < μ s) Q) s) : AW c (.loop x) Q s := by
  intro g a w hs
  have key : ∀ a w, (∃ g s, I s ∧ Sim c g s a w) → ∃ n, (∃ g s, I s ∧ Sim c g s a w ∧ μ s = n) ∧ ∀ m, (∃ g s, I s ∧ Sim c g s a w ∧ μ s = m) → n ≤ m :=
    fun a w ⟨g, s, h1, h2⟩ => least_nat ⟨μ s, g, s, h1, h2, rfl⟩
  refine wp_loop (fun a w => ∃ g s, I s ∧ Sim c g s a w) (fun a w => if h : ∃ g s, I s ∧ Sim c g s a w then Classical.choose (key a w h) else 0) ?_ ?_
  · obtain ⟨s', h1, h2⟩ := h0
    exact ⟨g, s', h2, hs.less h1⟩
  · intro a w hI
    obtain ⟨⟨g, s, h1, h2, h3⟩, h4⟩ := Classical.choose_spec (key a w hI)
    refine wp_mono (round s h1 g a w h2) fun e a' w' hq => ?_
    obtain ⟨g', s', h5, h6⟩ := hq
    cases e
    case normal =>
      obtain ⟨s'', h7, h8, h9⟩ := h5
      have hI' : ∃ g s, I s ∧ Sim c g s a' w' := ⟨g', s'', h8, h6.less h7⟩
      refine ⟨hI', ?_⟩
      simp only [dif_pos hI, dif_pos hI']
      have := (Classical.choose_spec (key a' w' hI')).2 (μ s'') ⟨g', s'', h8, h6.less h7, rfl⟩
      omega
    all_goals exact ⟨g', s', h5, h6⟩
/-- One operation: from s to states of N. -/
def Step (c : Cx) (o : Oper) (s : S) (N : S → Prop) : Prop := ∀ g a w, Sim c g s a w → ∀ (K : Act → World → Prop) (Q : Exit → Act → World → Prop),
  (∀ g' s' a' w', N s' → Sim c g' s' a' w' → K a' w') → o.wp c.P a w K Q
/-- One operation that leaves all old blocks as they were. -/
def StepM (c : Cx) (o : Oper) (s : S) (N : S → Prop) : Prop := ∀ g a w, Sim c g s a w → ∀ (K : Act → World → Prop) (Q : Exit → Act → World → Prop),
  (∀ g' s' a' w', N s' → Sim c g' s' a' w' → Below w.heap.size w w' → K a' w') → o.wp c.P a w K Q
/-- One operation that only reads: it yields v. -/
def RD (c : Cx) (o : Oper) (s : S) (v : V) : Prop := ∀ g a w, Sim c g s a w → ∃ x, VRep w (qt c s.H g) g v x ∧ ∀ w', Below w.heap.size w w' → (execOp a.eval o).run c.P w' = .ok (.value x) w'
/-- One operation that does not even read memory. -/
def RP (c : Cx) (o : Oper) (s : S) (v : V) : Prop := ∀ g a w, Sim c g s a w → ∃ x, VRep w (qt c s.H g) g v x ∧ ∀ w', (execOp a.eval o).run c.P w' = .ok (.value x) w'
theorem RP.rd {o : Oper} {v : V} (h : RP c o s v) : RD c o s v := fun g a w hs => by
  obtain ⟨x, h1, h2⟩ := h g a w hs
  exact ⟨x, h1, fun w' _ => h2 w'⟩
def dok (s : S) (o : Oper) : Bool := match o.dst with | some d => decide (d < s.n) | none => true
theorem dok_spec {s : S} {o : Oper} (h : dok s o = true) : ∀ k, o.dst = some k → k < s.n := by
  intro k hk
  simp only [dok, hk, decide_eq_true_eq] at h
  exact h
theorem RD.stepM {o : Oper} {v : V} {N : S → Prop} (h : RD c o s v) (hd : dok s o = true) (hN : N (s.put o.dst v)) : StepM c o s N := by
  intro g a w hs K Q hK
  obtain ⟨x, h1, h2⟩ := h g a w hs
  unfold Oper.wp
  rw [h2 w (Below.refl _ _)]
  exact hK g _ _ _ hN (hs.put o.dst (dok_spec hd) h1) (Below.refl _ _)
theorem StepM.step {o : Oper} {N : S → Prop} (h : StepM c o s N) : Step c o s N := fun g a w hs K Q hK => h g a w hs K Q fun g' s' a' w' h1 h2 _ => hK g' s' a' w' h1 h2
theorem AL.step {ops : Array Oper} {o : Oper} {rest : List Oper} (hg : o.guard = none) (h : Step c o s (AL c ops rest Q)) : AL c ops (o :: rest) Q s := fun g a w hs =>
  wpList_plain hg fun K hK => h g a w hs K _ fun g' s' a' w' h1 h2 => hK a' w' (h1 g' a' w' h2)
theorem AL.stepM {ops : Array Oper} {o : Oper} {rest : List Oper} (hg : o.guard = none) (h : StepM c o s (AL c ops rest Q)) : AL c ops (o :: rest) Q s := AL.step hg h.step
theorem AL.rd {ops : Array Oper} {o : Oper} {rest : List Oper} {v : V} (hg : o.guard = none) (hd : dok s o = true) (h : RD c o s v) (hN : AL c ops rest Q (s.put o.dst v)) : AL c ops (o :: rest) Q s :=
  AL.step hg (h.stepM hd hN).step
theorem AL.rp {ops : Array Oper} {o : Oper} {rest : List Oper} {v : V} (hg : o.guard = none) (hd : dok s o = true) (h : RP c o s v) (hN : AL c ops rest Q (s.put o.dst v)) : AL c ops (o :: rest) Q s := AL.rd hg hd h.rd hN
/-- A guarded operation. -/
def yld (ops : Array Oper) (s : S) (j : Nat) : Option Bool :=
  match (ops[j]?).bind (·.dst) with
  | some d => match fnd s.T d with
    | some (.d (.p (.bool b))) => some b
    | _ => none
  | none => none
theorem yld_spec {ops : Array Oper} {j : Nat} {b : Bool} {g : Nat → Nat × Nat} {a : Act} {w : World} (h : yld ops s j = some b) (hs : Sim c g s a w) : yielded ops a.tmps j = some b := by
  simp only [yld] at h
  split at h
  · rename_i d hd
    split at h
    · rename_i b' hb
      simp only [Option.some.injEq] at h
      subst h
      obtain ⟨x, h1, h2⟩ := hs.tmp d _ hb
      have := VRep.p_eq h2
      subst this
      simp [yielded, hd, h1]
    · cases h
  · cases h
theorem AL.yes {ops : Array Oper} {o : Oper} {rest : List Oper} {j : Nat} {b : Bool} (hg : o.guard = some (j, b)) (hy : yld ops s j = some b) (h : Step c o s (AL c ops rest Q)) : AL c ops (o :: rest) Q s := fun g a w hs =>
  wpList_step fun K hK => by
    have hw : Region.wanted o (yielded ops a.tmps) = true := by simp [Region.wanted, hg, yld_spec hy hs]
    rw [if_pos hw]
    exact h g a w hs K _ fun g' s' a' w' h1 h2 => hK a' w' (h1 g' a' w' h2)
theorem AL.no {ops : Array Oper} {o : Oper} {rest : List Oper} {j : Nat} {b b' : Bool} (hg : o.guard = some (j, b)) (hy : yld ops s j = some b') (hb : (b' == b) = false) (hd : dok s o = true) (h : AL c ops rest Q (s.put o.dst .junk)) : AL c ops (o :: rest) Q s := fun g a w hs =>
  wpList_step fun K hK => by
    have hw : ¬ Region.wanted o (yielded ops a.tmps) = true := by
      simp only [Region.wanted, hg, yld_spec hy hs]
      simpa using hb
    rw [if_neg hw]
    exact hK _ _ (h g _ w (hs.put o.dst (dok_spec hd) (.junk _)))
end
abbrev V.i (n : Int) : V := .d (.p (.int .i64 n))
abbrev V.b (b : Bool) : V := .d (.p (.bool b))
abbrev V.s (s : ByteArray) : V := .d (.p (.string s))
abbrev V.nil : V := .d (.p (.slice none 0 0))
/-- What the table of types says of one. -/
def Inf (P : Program) (t : TypeId) (sz bt : Nat) (z : Value) : Prop := (P.info? t).map (fun i => (i.size, i.bytes, i.zero)) = some (sz, bt, some z)
theorem Inf.out {P : Program} {t : TypeId} {sz bt : Nat} {z : Value} (h : Inf P t sz bt z) : ∃ i, P.info? t = some i ∧ i.size = sz ∧ i.bytes = bt ∧ i.zero = some z := by
  unfold Inf at h
  cases hi : P.info? t with
  | none => rw [hi] at h; cases h
  | some i =>
    rw [hi] at h
    simp only [Option.map_some, Option.some.injEq, Prod.mk.injEq] at h
    exact ⟨i, rfl, h.1, h.2.1, h.2.2⟩
def isAggD : TypeDesc → Bool
  | .struct _ => true
  | .array _ _ => true
  | _ => false
theorem run_isAgg {P : Program} {t : TypeId} {d : TypeDesc} (h : P.underlying t = some d) (w : World) : (isAgg t).run P w = .ok (isAggD d) w := by
  unfold isAgg
  simp only [Sem.run_bind, run_underlying h, Result.andThen_ok]
  cases d <;> rfl
theorem run_sizeOf {P : Program} {t : TypeId} {sz bt : Nat} {z : Value} (h : Inf P t sz bt z) (w : World) : (sizeOf t).run P w = .ok sz w := by
  obtain ⟨i, h1, h2, _⟩ := h.out
  unfold sizeOf typeInfo
  simp [h1, h2]
theorem run_zeroValue {P : Program} {t : TypeId} {sz bt : Nat} {z : Value} (h : Inf P t sz bt z) (w : World) : (zeroValue t).run P w = .ok z w := by
  obtain ⟨i, h1, h2, h3, h4⟩ := h.out
  unfold zeroValue typeInfo
  simp [h1, h4]
section
variable {c : Cx} {s : S} {o : Oper}
theorem rp_move {x : Operand} {v : V} (ho : o.op = .move x) (hx : s.ev x = some v) : RP c o s v := fun g a w hs =>
  ⟨a.eval x, hs.ev hx, fun w' => by simp [execOp, ho]⟩
theorem rp_assign {x : Operand} {v : V} (ho : o.op = .assign x) (hx : s.ev x = some v) : RP c o s v := fun g a w hs =>
  ⟨a.eval x, hs.ev hx, fun w' => by simp [execOp, ho]⟩
theorem rp_pick {x y z : Operand} {b : Bool} {v : V} (ho : o.op = .pick x y z) (hx : s.ev x = some (.b b)) (hv : s.ev (if b then y else z) = some v) : RP c o s v := fun g a w hs =>
  ⟨a.eval (if b then y else z), hs.ev hv, fun w' => by
    have := VRep.p_eq (hs.ev hx)
    cases b <;> simp [execOp, ho, this, asBool]⟩
/-- An operation on plain values. -/
theorem rp_bin {op : BinOp} {t t' : TypeId} {x y : Operand} {u v r : Value} (ho : o.op = .binOp op t x y t') (hx : s.ev x = some (.d (.p u))) (hy : s.ev y = some (.d (.p v)))
    (hr : ∀ w, (do eqGuard op t x y u v; binOp op t u v : Sem Value).run c.P w = .ok r w) : RP c o s (.d (.p r)) := fun g a w hs =>
  ⟨r, .d _ _ (.p _), fun w' => by
    have h := hr w'
    simp only [execOp, ho, VRep.p_eq (hs.ev hx), VRep.p_eq (hs.ev hy), Sem.run_bind] at h ⊢
    rw [h]
    rfl⟩
theorem wrap_in {n : Int} (h1 : -9223372036854775808 ≤ n) (h2 : n ≤ 9223372036854775807) : IntKind.i64.wrap n = n := by
  rw [IntKind.wrap_i64]
  omega
theorem rp_add {t t' : TypeId} {x y : Operand} {m n : Int} (ho : o.op = .binOp .add t x y t') (hx : s.ev x = some (.i m)) (hy : s.ev y = some (.i n))
    (h1 : -9223372036854775808 ≤ m + n ∧ m + n ≤ 9223372036854775807) : RP c o s (.i (m + n)) :=
  rp_bin ho hx hy fun w => by simp [eqGuard, binOp, Op.intArith, wrap_in h1.1 h1.2]
theorem rp_sub {t t' : TypeId} {x y : Operand} {m n : Int} (ho : o.op = .binOp .sub t x y t') (hx : s.ev x = some (.i m)) (hy : s.ev y = some (.i n))
    (h1 : -9223372036854775808 ≤ m - n ∧ m - n ≤ 9223372036854775807) : RP c o s (.i (m - n)) :=
  rp_bin ho hx hy fun w => by simp [eqGuard, binOp, Op.intArith, wrap_in h1.1 h1.2]
theorem rp_eql {t t' : TypeId} {x y : Operand} {k : IntKind} {m n : Int} (ho : o.op = .binOp .eql t x y t') (hx : s.ev x = some (.d (.p (.int k m)))) (hy : s.ev y = some (.d (.p (.int k n)))) : RP c o s (.b (decide (m = n))) :=
  rp_bin ho hx hy fun w => by simp [eqGuard, binOp, Op.intCmp]; rfl
theorem rp_neq {t t' : TypeId} {x y : Operand} {k : IntKind} {m n : Int} (ho : o.op = .binOp .neq t x y t') (hx : s.ev x = some (.d (.p (.int k m)))) (hy : s.ev y = some (.d (.p (.int k n)))) : RP c o s (.b (decide (m ≠ n))) :=
  rp_bin ho hx hy fun w => by
    simp [eqGuard, binOp, Op.intCmp]
    cases h : (m == n) <;> simp_all [bne]
theorem rp_lss {t t' : TypeId} {x y : Operand} {k : IntKind} {m n : Int} (ho : o.op = .binOp .lss t x y t') (hx : s.ev x = some (.d (.p (.int k m)))) (hy : s.ev y = some (.d (.p (.int k n)))) : RP c o s (.b (decide (m < n))) :=
  rp_bin ho hx hy fun w => by simp [eqGuard, binOp, Op.intCmp]
theorem rp_leq {t t' : TypeId} {x y : Operand} {k : IntKind} {m n : Int} (ho : o.op = .binOp .leq t x y t') (hx : s.ev x = some (.d (.p (.int k m)))) (hy : s.ev y = some (.d (.p (.int k n)))) : RP c o s (.b (decide (m ≤ n))) :=
  rp_bin ho hx hy fun w => by simp [eqGuard, binOp, Op.intCmp]
theorem rp_gtr {t t' : TypeId} {x y : Operand} {k : IntKind} {m n : Int} (ho : o.op = .binOp .gtr t x y t') (hx : s.ev x = some (.d (.p (.int k m)))) (hy : s.ev y = some (.d (.p (.int k n)))) : RP c o s (.b (decide (n < m))) :=
  rp_bin ho hx hy fun w => by simp [eqGuard, binOp, Op.intCmp]
theorem rp_geq {t t' : TypeId} {x y : Operand} {k : IntKind} {m n : Int} (ho : o.op = .binOp .geq t x y t') (hx : s.ev x = some (.d (.p (.int k m)))) (hy : s.ev y = some (.d (.p (.int k n)))) : RP c o s (.b (decide (n ≤ m))) :=
  rp_bin ho hx hy fun w => by simp [eqGuard, binOp, Op.intCmp]
theorem rp_not {t : TypeId} {x : Operand} {b : Bool} (ho : o.op = .unOp .not t x) (hx : s.ev x = some (.b b)) : RP c o s (.b (!b)) := fun g a w hs =>
  ⟨.bool (!b), .d _ _ (.p _), fun w' => by simp [execOp, ho, VRep.p_eq (hs.ev hx), Op.unary]⟩
theorem rp_extract {x : Operand} {i : Nat} {l : List V} {v : V} (ho : o.op = .extract x i) (hx : s.ev x = some (.tup l)) (hv : l[i]? = some v) : RP c o s v := fun g a w hs => by
  have h := hs.ev hx
  generalize hy : a.eval x = y at h
  cases h with
  | tup _ cs hlen h =>
    have hlt : i < cs.length := by rw [← hlen]; exact (List.getElem?_eq_some_iff.1 hv).1
    refine ⟨cs[i], h i v _ hv (List.getElem?_eq_getElem hlt), fun w' => ?_⟩
    simp [execOp, ho, hy, Instr.extract, List.getElem?_eq_getElem hlt]
theorem rp_func {fn : FuncId} {cap : Array Operand} {vs : List V} (ho : o.op = .makeFunc (.func fn) #[] cap) (hv : cap.toList.map s.ev = vs.map some) : RP c o s (.fn fn vs) := fun g a w hs => by
  have hl : vs.length = (cap.toList.map a.eval).length := by
    have := congrArg List.length hv
    simpa using this.symm
  refine ⟨.func (.func fn) #[] (cap.toList.map a.eval).toArray, .fn _ _ _ hl ?_, fun w' => ?_⟩
  · intro j u y h1 h2
    have h3 := congrArg (fun l => l[j]?) hv
    simp only [List.getElem?_map, h1, Option.map_some] at h3 h2
    cases h4 : cap.toList[j]? with
    | none => rw [h4] at h3; cases h3
    | some x =>
      rw [h4] at h3 h2
      simp only [Option.map_some, Option.some.injEq] at h3 h2
      subst h2
      exact hs.ev h3
  · simp [execOp, ho, Instr.makeFunc, ← Array.toList_map]
theorem rp_nilCheck {x : Operand} {r k : Nat} (ho : o.op = .nilCheck x) (hx : s.ev x = some (.ref r k)) : RP c o s (.ref r k) := fun g a w hs => by
  have h := hs.ev hx
  refine ⟨a.eval x, h, fun w' => ?_⟩
  generalize hy : a.eval x = y at h
  cases h
  simp [execOp, ho, hy]
/-- The address of a field. -/
theorem rp_field_ref {t : TypeId} {x : Operand} {f r k k' : Nat} {fs : Array Field} {fd : Field} {sz bt : Nat} {z : Value} (hu : c.P.underlying t = some (.struct fs)) (ho : o.op = .fieldAddr t x f) (hx : s.ev x = some (.ref r k))
    (hf : fs[f]? = some fd) (hi : Inf c.P fd.type sz bt z) (hsz : sz ≠ 0) (hk : k + fd.offset = k') : RP c o s (.ref r k') := fun g a w hs => by
  have h := hs.ev hx
  refine ⟨.pointer (some ⟨(g r).1, k', none⟩), .ref _ _, fun w' => ?_⟩
  generalize hy : a.eval x = y at h
  cases h
  subst hk
  simp [execOp, ho, hy, Instr.fieldAt, run_underlying hu, hf, Instr.sureAddr, fieldPlace, run_sizeOf hi, hsz, addr_add]
theorem rp_field_ad {t : TypeId} {x : Operand} {f k : Nat} {row : List D} {fs : Array Field} {fd : Field} {sz bt : Nat} {z : Value} (hu : c.P.underlying t = some (.struct fs)) (ho : o.op = .fieldAddr t x f) (hx : s.ev x = some (.ad row))
    (hf : fs[f]? = some fd) (hi : Inf c.P fd.type sz bt z) (hsz : sz ≠ 0) (hk : fd.offset = k) : RP c o s (.ad (row.drop k)) := fun g a w hs => by
  have h := hs.ev hx
  generalize hy : a.eval x = y at h
  cases h with
  | ad _ b o' f' hq hc hr =>
    subst hk
    refine ⟨.pointer (some ⟨b, o' + fd.offset, none⟩), .ad _ b _ (fun j => f' (fd.offset + j)) hq (fun j u hu => ?_) (fun j u hu => ?_), fun w' => ?_⟩
    · rw [Nat.add_assoc]; exact hc _ u (by simpa using hu)
    · exact hr _ u (by simpa using hu)
    · simp [execOp, ho, hy, Instr.fieldAt, run_underlying hu, hf, Instr.sureAddr, fieldPlace, run_sizeOf hi, hsz, addr_add]
/-- A load of one cell. -/
theorem rd_load_ref {t : TypeId} {d : TypeDesc} {x : Operand} {r k : Nat} {row : Row} {v : V} (hu : c.P.underlying t = some d) (hd : isAggD d = false) (ho : o.op = .load t x) (hx : s.ev x = some (.ref r k)) (hr : fnd s.H r = some row) (hn : row.nil = false) (hv : row.cells[k]? = some v) : RD c o s v := fun g a w hs => by
  have h := hs.ev hx
  obtain ⟨arr, h1, _, h2⟩ := hs.obj r row hr hn
  obtain ⟨y, h3, h4⟩ := h2 k v hv
  refine ⟨y, h4, fun w' hb => ?_⟩
  have hlt : (g r).1 < w.heap.size := (Array.getElem?_eq_some_iff.1 h1).1
  have hcell : w'.cell? ⟨(g r).1, k, none⟩ = some y := (hb.cell (p := ⟨(g r).1, k, none⟩) hlt).trans ((cell_of_row w _ _ _ _ _ h1).trans h3)
  generalize hy : a.eval x = z at h
  cases h
  simp [execOp, ho, hy, Instr.loadAt, Instr.sureAddr, loadVar, run_isAgg hu, hd, hcell]
theorem rd_load_ad {t : TypeId} {d : TypeDesc} {x : Operand} {row : List D} {v : D} (hu : c.P.underlying t = some d) (hd : isAggD d = false) (ho : o.op = .load t x) (hx : s.ev x = some (.ad row)) (hv : row[0]? = some v) : RD c o s (.d v) := fun g a w hs => by
  have h := hs.ev hx
  generalize hy : a.eval x = z at h
  cases h with
  | ad _ b o' f hq hc hr =>
    refine ⟨f 0, .d _ _ (hr 0 v hv), fun w' hb => ?_⟩
    have hcell : w'.cell? ⟨b, o', none⟩ = some (f 0) := (hb.cell (p := ⟨b, o', none⟩) hq.2).trans (hc 0 v hv)
    simp [execOp, ho, hy, Instr.loadAt, Instr.sureAddr, loadVar, run_isAgg hu, hd, hcell]
theorem run_loadVar_agg {P : Program} {t : TypeId} {d : TypeDesc} {sz bt : Nat} {z : Value} {w : World} {b o : Nat} {cs : List Value} (hu : P.underlying t = some d) (hd : isAggD d = true) (hi : Inf P t sz bt z) (hl : cs.length = sz)
    (h : ∀ j v, cs[j]? = some v → w.cell? ⟨b, o + j, none⟩ = some v) : (loadVar t ⟨b, o, none⟩).run P w = .ok (.agg cs.toArray) w := by
  have := run_loadCells_list (P := P) (w := w) ⟨b, o, none⟩ cs (fun j v hj => by rw [addr_add]; exact h j v hj)
  subst hl
  simp [loadVar, run_isAgg hu, hd, run_sizeOf hi, this]
theorem rd_loads_ref {t : TypeId} {d : TypeDesc} {x : Operand} {r k sz bt : Nat} {z : Value} {row : Row} {l : List V} (hu : c.P.underlying t = some d) (hd : isAggD d = true) (hi : Inf c.P t sz bt z) (ho : o.op = .load t x) (hx : s.ev x = some (.ref r k)) (hr : fnd s.H r = some row) (hn : row.nil = false)
    (hl : (row.cells.drop k).take sz = l) (hlen : l.length = sz) : RD c o s (.agg l) := fun g a w hs => by
  have h := hs.ev hx
  obtain ⟨arr, h1, _, h2⟩ := hs.obj r row hr hn
  have hat : ∀ (j : Nat) (u : V), l[j]? = some u → row.cells[k + j]? = some u := by
    intro j u hu
    rw [← hl, List.getElem?_take] at hu
    split at hu
    · simpa using hu
    · cases hu
  have hlt : (g r).1 < w.heap.size := (Array.getElem?_eq_some_iff.1 h1).1
  refine ⟨.agg ((List.range sz).map fun j => arr.getD (k + j) undef).toArray, .agg l _ (by simp [hlen]) ?_, fun w' hb => ?_⟩
  · intro j u y hj hy
    obtain ⟨y', h3, h4⟩ := h2 _ u (hat j u hj)
    have hjs : j < sz := by rw [← hlen]; exact (List.getElem?_eq_some_iff.1 hj).1
    simp only [List.getElem?_map, List.getElem?_range hjs, Option.map_some, Option.some.injEq] at hy
    rw [Array.getD_eq_getD_getElem?, h3] at hy
    simp only [Option.getD_some] at hy
    subst hy
    exact h4
  · have hrun := run_loadVar_agg (P := c.P) (w := w') (b := (g r).1) (o := k) (cs := (List.range sz).map fun j => arr.getD (k + j) undef) hu hd hi (by simp) (by
      intro j v hj
      have hjs : j < sz := by simpa using (List.getElem?_eq_some_iff.1 hj).1
      simp only [List.getElem?_map, List.getElem?_range hjs, Option.map_some, Option.some.injEq] at hj
      obtain ⟨y', h3, h4⟩ := h2 _ l[j] (hat j l[j] (List.getElem?_eq_getElem (by omega)))
      rw [Array.getD_eq_getD_getElem?, h3] at hj
      simp only [Option.getD_some] at hj
      subst hj
      exact (hb.cell (p := ⟨(g r).1, k + j, none⟩) hlt).trans ((cell_of_row w _ _ _ _ _ h1).trans h3))
    generalize hy : a.eval x = y at h
    cases h
    simp [execOp, ho, hy, Instr.loadAt, Instr.sureAddr, hrun]
theorem rd_loads_ad {t : TypeId} {d : TypeDesc} {x : Operand} {sz bt : Nat} {z : Value} {row l : List D} (hu : c.P.underlying t = some d) (hd : isAggD d = true) (hi : Inf c.P t sz bt z) (ho : o.op = .load t x) (hx : s.ev x = some (.ad row))
    (hl : row.take sz = l) (hlen : l.length = sz) : RD c o s (.agg (l.map V.d)) := fun g a w hs => by
  have h := hs.ev hx
  generalize hy : a.eval x = y at h
  cases h with
  | ad _ b o' f hq hc hr =>
    have hat : ∀ (j : Nat) (u : D), l[j]? = some u → row[j]? = some u := by
      intro j u hu
      rw [← hl, List.getElem?_take] at hu
      split at hu
      · exact hu
      · cases hu
    refine ⟨.agg ((List.range sz).map f).toArray, .agg _ _ (by simp [hlen]) ?_, fun w' hb => ?_⟩
    · intro j u y hj hy
      have hjs : j < sz := by have := (List.getElem?_eq_some_iff.1 hj).1; simp at this; omega
      simp only [List.getElem?_map, List.getElem?_range hjs, Option.map_some, Option.some.injEq] at hy
      subst hy
      rw [List.getElem?_map] at hj
      cases hk : l[j]? with
      | none => rw [hk] at hj; cases hj
      | some u' =>
        rw [hk] at hj
        simp only [Option.map_some, Option.some.injEq] at hj
        subst hj
        exact .d _ _ (hr j u' (hat j u' hk))
    · have hrun := run_loadVar_agg (P := c.P) (w := w') (b := b) (o := o') (cs := (List.range sz).map f) hu hd hi (by simp) (by
        intro j v hj
        have hjs : j < sz := by simpa using (List.getElem?_eq_some_iff.1 hj).1
        simp only [List.getElem?_map, List.getElem?_range hjs, Option.map_some, Option.some.injEq] at hj
        subst hj
        exact (hb.cell (p := ⟨b, o' + j, none⟩) hq.2).trans (hc j l[j] (hat j _ (List.getElem?_eq_getElem (by omega)))))
      simp [execOp, ho, hy, Instr.loadAt, Instr.sureAddr, hrun]
/-- The address of an element. -/
theorem rp_index_own {t e : TypeId} {x i : Operand} {r sz n bt k : Nat} {z : Value} {n' : Int} {kd : IntKind} (hu : c.P.underlying t = some (.slice e)) (hi : Inf c.P e sz bt z) (ho : o.op = .indexAddr t x i) (hx : s.ev x = some (.own r sz n false)) (hy : s.ev i = some (.d (.p (.int kd n'))))
    (hk : n' = (k : Int)) (hlt : k < n) : RP c o s (.ref r (k * sz)) := fun g a w hs => by
  have h := hs.ev hx
  refine ⟨.pointer (some ⟨(g r).1, k * sz, none⟩), .ref _ _, fun w' => ?_⟩
  generalize hyy : a.eval x = y at h
  cases h with
  | own _ _ _ hn hcap =>
    subst hk
    have hlt' : (k : Int) < n := by omega
    simp [execOp, ho, hyy, VRep.p_eq (hs.ev hy), Instr.indexAt, asIntOf, run_underlying hu, run_sizeOf hi, hlt', addr_add, hlt]
theorem rd_index_sl {t e : TypeId} {x i : Operand} {sz bt bt' k : Nat} {z : Value} {rows : List (List D)} {row : List D} {n' : Int} {kd : IntKind} (hu : c.P.underlying t = some (.slice e)) (hi : Inf c.P e sz bt z) (ho : o.op = .indexAddr t x i) (hx : s.ev x = some (.d (.sl sz bt' rows))) (hy : s.ev i = some (.d (.p (.int kd n'))))
    (hk : n' = (k : Int)) (hr : rows[k]? = some row) : RP c o s (.ad row) := fun g a w hs => by
  have h := hs.ev hx
  generalize hyy : a.eval x = y at h
  cases h with
  | d _ _ h =>
    cases h with
    | sl _ _ _ ad cap b o' f _ ha hl hc hr' =>
      have hne : rows ≠ [] := by rintro rfl; simp at hr
      obtain ⟨rfl, hq⟩ := ha hne
      have hlt : k < rows.length := (List.getElem?_eq_some_iff.1 hr).1
      refine ⟨.pointer (some ⟨b, o' + k * sz, none⟩), .ad row b _ (f k) hq (fun j u hu => hc k j row u hr hu) (fun j u hu => hr' k j row u hr hu), fun w' => ?_⟩
      subst hk
      have hlt' : (k : Int) < rows.length := by omega
      simp [execOp, ho, hyy, VRep.p_eq (hs.ev hy), Instr.indexAt, asIntOf, run_underlying hu, run_sizeOf hi, hlt', addr_add, hlt]
theorem exec_len {ρ : Operand → Value} {t : TypeId} {x : Operand} {w : World} (ho : o.op = .call { callee := .builtin .len, args := #[x], argTypes := #[t] }) {n : Nat} (h : (Builtin.len_ #[t] o.type #[ρ x]).run c.P w = .ok (goInt n) w) : (execOp ρ o).run c.P w = .ok (.value (.int .i64 n)) w := by
  simp only [execOp, ho, resolve, invoke, builtin, Sem.run_bind, Sem.run_pure, Result.andThen_ok, List.map_toArray, List.map_cons, List.map_nil, h]
  rfl
theorem rp_len_own {t e : TypeId} {x : Operand} {r sz n : Nat} {z : Bool} (hu : c.P.underlying t = some (.slice e)) (ho : o.op = .call { callee := .builtin .len, args := #[x], argTypes := #[t] }) (hx : s.ev x = some (.own r sz n z)) : RP c o s (.i (n : Int)) := fun g a w hs => by
  have h := hs.ev hx
  refine ⟨.int .i64 n, .d _ _ (.p _), fun w' => exec_len ho ?_⟩
  generalize a.eval x = y at h
  cases h <;> simp [Builtin.len_, run_underlying hu]
theorem rp_len_sl {t e : TypeId} {x : Operand} {sz bt' : Nat} {rows : List (List D)} (hu : c.P.underlying t = some (.slice e)) (ho : o.op = .call { callee := .builtin .len, args := #[x], argTypes := #[t] }) (hx : s.ev x = some (.d (.sl sz bt' rows))) : RP c o s (.i (rows.length : Int)) := fun g a w hs => by
  have h := hs.ev hx
  refine ⟨.int .i64 rows.length, .d _ _ (.p _), fun w' => exec_len ho ?_⟩
  generalize a.eval x = y at h
  cases h with
  | d _ _ h => cases h; simp [Builtin.len_, run_underlying hu]
theorem rp_len_nil {t e : TypeId} {x : Operand} (hu : c.P.underlying t = some (.slice e)) (ho : o.op = .call { callee := .builtin .len, args := #[x], argTypes := #[t] }) (hx : s.ev x = some .nil) : RP c o s (.i 0) := fun g a w hs => by
  refine ⟨.int .i64 0, .d _ _ (.p _), fun w' => exec_len (n := 0) ho ?_⟩
  rw [VRep.p_eq (hs.ev hx)]
  simp [Builtin.len_, run_underlying hu]
theorem rp_len_str {t : TypeId} {x : Operand} {b : ByteArray} (hu : c.P.underlying t = some .string) (ho : o.op = .call { callee := .builtin .len, args := #[x], argTypes := #[t] }) (hx : s.ev x = some (.s b)) : RP c o s (.i (b.size : Int)) := fun g a w hs => by
  refine ⟨.int .i64 b.size, .d _ _ (.p _), fun w' => exec_len ho ?_⟩
  rw [VRep.p_eq (hs.ev hx)]
  simp [Builtin.len_, run_underlying hu]
end
/-- The cells of a value. -/
def V.cs : V → List V
  | .agg l => l
  | v => [v]
/-- A value of one cell. -/
def V.one : V → Bool
  | .d (.p x) => x.oneCell'
  | .d (.sl _ _ _) => true
  | .d (.mp _) => true
  | .d (.mm _) => true
  | .ad _ => true
  | .ref _ _ => true
  | .own _ _ _ _ => true
  | .que _ _ _ _ => true
  | .fn _ _ => true
  | .mp _ _ _ => true
  | .mq _ _ _ => true
  | .ifc _ _ => true
  | .mp2 _ _ _ _ _ _ => true
  | .it _ _ _ _ => true
  | .mit _ _ _ _ _ => true
  | .mm _ _ _ => true
  | _ => false
def V.ok : V → Bool
  | .agg l => l.all V.one
  | v => v.one
section
variable {c : Cx} {s : S} {o : Oper} {g : Nat → Nat × Nat} {a : Act} {w : World} {q : Nat → Prop}
theorem VRep.one {v : V} {x : Value} (h : VRep w q g v x) (ho : v.one = true) : x.oneCell' = true := by
  cases h with
  | d y _ h =>
    cases h with
    | p => exact ho
    | sl => rfl
    | mp => rfl
    | mm => rfl
  | ad => rfl
  | ref => rfl
  | own => rfl
  | ownNil => rfl
  | que => rfl
  | agg => simp [V.one] at ho
  | tup => simp [V.one] at ho
  | fn => rfl
  | mp => rfl
  | mq => rfl
  | ifc => rfl
  | mp2 => rfl
  | it => rfl
  | mit => rfl
  | mm => rfl
  | blk => simp [V.one] at ho
  | junk => simp [V.one] at ho
theorem cells_one {x : Value} (h : x.oneCell' = true) : x.cells = #[x] := by
  cases x <;> first | rfl | (simp [Value.oneCell'] at h)
theorem VRep.cells {v : V} {x : Value} (h : VRep w q g v x) (ho : v.ok = true) :
    ∃ cs : List Value, x.cells = cs.toArray ∧ v.cs.length = cs.length ∧ (∀ (j : Nat) (u : V) (y : Value), v.cs[j]? = some u → cs[j]? = some y → VRep w q g u y) ∧ ∀ y ∈ cs, y.oneCell' = true := by
  by_cases hv : v.one = true
  · have h1 := h.one hv
    refine ⟨[x], by rw [cells_one h1], ?_, ?_, by simpa using h1⟩
    · cases v <;> first | rfl | (simp [V.one] at hv)
    · intro j u y h2 h3
      have hc : v.cs = [v] := by cases v <;> first | rfl | (simp [V.one] at hv)
      rw [hc] at h2
      match j, h2, h3 with
      | 0, h2, h3 =>
        simp only [List.getElem?_cons_zero, Option.some.injEq] at h2 h3
        subst h2 h3
        exact h
      | n + 1, h2, _ => simp at h2
  · cases v with
    | agg l =>
      cases h with
      | agg _ cs hlen h =>
        refine ⟨cs, rfl, hlen, h, fun y hy => ?_⟩
        obtain ⟨j, hj⟩ := List.getElem?_of_mem hy
        have hjl : j < l.length := by rw [hlen]; exact (List.getElem?_eq_some_iff.1 hj).1
        have hall : (l.all V.one) = true := ho
        exact (h j l[j] y (List.getElem?_eq_getElem hjl) hj).one (List.all_eq_true.1 hall _ (List.getElem_mem hjl))
    | _ => exact absurd ho hv
theorem V.has_cs {r : Nat} {v : V} (h : v.has r = false) : V.hasL r v.cs = false := by
  cases v <;> simp_all [V.cs, V.hasL, V.has]
theorem S.ev_clean {r : Nat} (h : s.clean r = true) {x : Operand} {v : V} (hx : s.ev x = some v) : v.has r = false := by
  cases x with
  | tmp t => exact S.clean_tmp h hx
  | const y => simp only [S.ev, Option.some.injEq] at hx; subst hx; rfl
  | global => simp only [S.ev, Option.some.injEq] at hx; subst hx; rfl
  | func f => simp only [S.ev, Option.some.injEq] at hx; subst hx; rfl
/-- A state with a new object in it, which the operation's temporary points to. -/
def S.newObj (s : S) (r : Nat) (row : Row) (d : Option Tmp) (v : V) : S := { s with H := (r, row) :: s.H }.put d v
/-- One operation that makes one new object. -/
def StepG (c : Cx) (o : Oper) (s : S) (r : Nat) (N : S → Prop) : Prop := ∀ g a w, Sim c g s a w → ∀ (K : Act → World → Prop) (Q : Exit → Act → World → Prop),
  (∀ g' s' a' w', N s' → Sim c g' s' a' w' → Below w.heap.size w w' → (∀ k, k ≠ r → g' k = g k) → w.heap.size ≤ (g' r).1 → K a' w') → o.wp c.P a w K Q
theorem StepG.stepM {r : Nat} {N : S → Prop} (h : StepG c o s r N) : StepM c o s N := fun g a w hs K Q hK => h g a w hs K Q fun g' s' a' w' h1 h2 h3 _ _ => hK g' s' a' w' h1 h2 h3
theorem sm_newG {r cap : Nat} {row : Row} {v : V} (hr : s.clean r = true) (hnn : row.nil = false) (hrow : V.hasL r row.cells = false) (hd : dok s o = true)
    (h : ∀ g a w, Sim c g s a w → ∃ (cs : Array Value) (x : Value), (row.sz ≠ 0 → cs.size = cap * row.sz) ∧ (execOp a.eval o).run c.P w = .ok (.value x) (w.alloc (.cells cs row.ty)) ∧ (∀ (j : Nat) (u : V), row.cells[j]? = some u → ∃ y, cs[j]? = some y ∧ VRep w (qt c s.H g) g u y) ∧
      VRep (w.alloc (.cells cs row.ty)) (fun _ => True) (fun _ => (w.heap.size, cap)) v x) (hv : ∃ k, v = .ref r k ∨ ∃ sz n, v = .own r sz n false) : StepG c o s r (fun s' => s' = s.newObj r row o.dst v) := by
  intro g a w hs K Q hK
  obtain ⟨cs, x, h0, h1, h2, h3⟩ := h g a w hs
  obtain ⟨h4, h5⟩ := hs.new hr hnn hrow h0 h2
  unfold Oper.wp
  rw [h1]
  refine hK _ _ _ _ rfl (h4.put o.dst (dok_spec hd) ?_) ((Below.refl _ _).alloc (Nat.le_refl _) _) (fun k hk => by simp [hk]) (by simp)
  obtain ⟨k, rfl | ⟨sz, n, rfl⟩⟩ := hv
  · cases h3
    have := VRep.ref (w := w.alloc (.cells cs row.ty)) (q := qt c ((r, row) :: s.H) (fun k => if k = r then (w.heap.size, cap) else g k)) (g := fun k => if k = r then (w.heap.size, cap) else g k) r k
    simpa using this
  · cases h3 with
    | own _ _ _ hn hcap =>
      have := VRep.own (w := w.alloc (.cells cs row.ty)) (q := qt c ((r, row) :: s.H) (fun k => if k = r then (w.heap.size, cap) else g k)) (g := fun k => if k = r then (w.heap.size, cap) else g k) r sz n (by simpa using hn) (by simpa using hcap)
      simpa using this
theorem sm_new {r cap : Nat} {row : Row} {v : V} (hr : s.clean r = true) (hnn : row.nil = false) (hrow : V.hasL r row.cells = false) (hd : dok s o = true)
    (h : ∀ g a w, Sim c g s a w → ∃ (cs : Array Value) (x : Value), (row.sz ≠ 0 → cs.size = cap * row.sz) ∧ (execOp a.eval o).run c.P w = .ok (.value x) (w.alloc (.cells cs row.ty)) ∧ (∀ (j : Nat) (u : V), row.cells[j]? = some u → ∃ y, cs[j]? = some y ∧ VRep w (qt c s.H g) g u y) ∧
      VRep (w.alloc (.cells cs row.ty)) (fun _ => True) (fun _ => (w.heap.size, cap)) v x) (hv : ∃ k, v = .ref r k ∨ ∃ sz n, v = .own r sz n false) : StepM c o s (fun s' => s' = s.newObj r row o.dst v) := (sm_newG hr hnn hrow hd h hv).stepM
theorem sm_box (r : Nat) {e : TypeId} {x : Operand} {v : V} (ho : o.op = .box e x) (hx : s.ev x = some v) (hok : v.ok = true) (hr : s.clean r = true) (hd : dok s o = true) : StepM c o s (fun s' => s' = s.newObj r ⟨e, v.cs, false, 0⟩ o.dst (.ref r 0)) :=
  sm_new (cap := 0) hr rfl (V.has_cs (S.ev_clean hr hx)) hd (fun g a w hs => by
    obtain ⟨cs, h1, h2, h3, h4⟩ := (hs.ev hx).cells hok
    refine ⟨cs.toArray, .pointer (some ⟨w.heap.size, 0, none⟩), fun h => absurd rfl h, ?_, fun j u hu => ?_, .ref _ _⟩
    · simp [execOp, ho, Instr.box, newVar, newRow, h1]
    · have hj : j < cs.length := by rw [← h2]; exact (List.getElem?_eq_some_iff.1 hu).1
      exact ⟨cs[j], by simp [hj], h3 j u _ hu (List.getElem?_eq_getElem hj)⟩) ⟨0, .inl rfl⟩
theorem sm_alloc (r : Nat) {e : TypeId} {sz bt : Nat} {z : Value} (hi : Inf c.P e sz bt z) (ho : o.op = .alloc e) (hr : s.clean r = true) (hd : dok s o = true) {l : List V} (hl : z.cells.toList.map (fun y => V.d (.p y)) = l) : StepM c o s (fun s' => s' = s.newObj r ⟨e, l, false, 0⟩ o.dst (.ref r 0)) :=
  sm_new (cap := 0) hr rfl (by subst hl; simp [V.hasL_false, V.has]) hd (fun g a w hs => by
    subst hl
    refine ⟨z.cells, .pointer (some ⟨w.heap.size, 0, none⟩), fun h => absurd rfl h, ?_, fun j u hu => ?_, .ref _ _⟩
    · simp [execOp, ho, Instr.alloc, run_zeroValue hi, newVar, newRow]
    · simp only [List.getElem?_map] at hu
      cases hz : z.cells.toList[j]? with
      | none => rw [hz] at hu; cases hu
      | some y =>
        rw [hz] at hu
        simp only [Option.map_some, Option.some.injEq] at hu
        subst hu
        exact ⟨y, by simpa using hz, .d _ _ (.p _)⟩) ⟨0, .inl rfl⟩
/-- make, of a slice whose elements have one cell. -/
theorem sm_make1 (r : Nat) {t e : TypeId} {bt n : Nat} {z : Value} {x : Operand} {n' : Int} (hu : c.P.underlying t = some (.slice e)) (hi : Inf c.P e 1 bt z) (hz : z.oneCell' = true) (ho : o.op = .makeSlice t x x) (hx : s.ev x = some (.i n')) (hn : n' = (n : Int)) (hb : n ≤ 1000000) (hbt : bt ≤ 64) (hr : s.clean r = true) (hd : dok s o = true) :
    StepM c o s (fun s' => s' = s.newObj r ⟨e, List.replicate n (.d (.p z)), false, 1⟩ o.dst (.own r 1 n false)) :=
  sm_new (cap := n) hr rfl (by simp [V.hasL_false, V.has]) hd (fun g a w hs => by
    subst hn
    obtain ⟨i, hi1, hi2, hi3, hi4⟩ := hi.out
    have hmul : (i.bytes : Int) * (n : Int) ≤ 281474976710656 := by
      rw [hi3]
      have : (bt : Int) * (n : Int) ≤ 64 * (n : Int) := Int.mul_le_mul_of_nonneg_right (by omega) (by omega)
      omega
    have hrun := run_make (P := c.P) w t e i z hu hi1 hi4 .i64 .i64 n n (by omega) (by omega) hmul (by omega)
    have hc : z.cells = #[z] := cells_one hz
    have hm : madeCells #[z] (n * 1) = (List.replicate n z).toArray := by
      apply Array.ext
      · simp [madeCells]
      · intro j h1 h2; simp [madeCells, Nat.mod_one]
    simp only [Int.toNat_natCast, hi2, hc, hm] at hrun
    refine ⟨(List.replicate n z).toArray, .slice (some ⟨w.heap.size, 0, none⟩) n n, by simp, ?_, fun j u hu => ?_, ?_⟩
    · simp [execOp, ho, VRep.p_eq (hs.ev hx), hrun]
    · have hj : j < n := by simpa using (List.getElem?_eq_some_iff.1 hu).1
      simp only [List.getElem?_replicate, hj, if_true, Option.some.injEq] at hu
      subst hu
      exact ⟨z, by simp [hj], .d _ _ (.p _)⟩
    · exact VRep.own (g := fun _ => (w.heap.size, n)) _ _ _ (Nat.le_refl _) (by simp only [maxLen]; omega)) ⟨0, .inr ⟨_, _, rfl⟩⟩
/-- A struct of parts. -/
def Places (P : Program) (t : TypeId) (pl : List (Nat × Nat)) : Prop := ∃ fields, P.underlying t = some (.struct fields) ∧ fields.toList.mapM (fun f => (P.info? f.type).map fun i => (f.offset, i.size)) = some pl
def setL (cs : List V) (k : Nat) (l : List V) : List V := cs.take k ++ l ++ cs.drop (k + l.length)
def fillV (place : Nat → Option (Nat × Nat)) : List V → List (Nat × V) → Option (List V)
  | cs, [] => some cs
  | cs, (i, v) :: r =>
    match place i with
    | none => none
    | some (off, size) => if v.cs.length = size ∧ off + size ≤ cs.length ∧ v.ok = true then fillV place (setL cs off v.cs) r else none
theorem setL_get {cs l : List V} {k : Nat} (h : k + l.length ≤ cs.length) (j : Nat) : (setL cs k l)[j]? = if k ≤ j ∧ j < k + l.length then l[j - k]? else cs[j]? := by
  unfold setL
  by_cases h1 : j < k
  · rw [if_neg (by omega), List.append_assoc, List.getElem?_append_left (by simp; omega), List.getElem?_take_of_lt h1]
  · by_cases h2 : j < k + l.length
    · rw [if_pos (by omega), List.append_assoc, List.getElem?_append_right (by simp; omega), List.getElem?_append_left (by simp; omega)]
      congr 1
      simp; omega
    · rw [if_neg (by omega), List.append_assoc, List.getElem?_append_right (by simp; omega), List.getElem?_append_right (by simp; omega), List.getElem?_drop]
      congr 1
      simp; omega
theorem setL_len {cs l : List V} {k : Nat} (h : k + l.length ≤ cs.length) : (setL cs k l).length = cs.length := by simp [setL]; omega
theorem fold_set : ∀ (l : List Value) (cs : Array Value) (k n : Nat), (l.zipIdx n).foldl (fun cs (x : Value × Nat) => cs.setIfInBounds (k + x.2) x.1) cs = (l.zipIdx 0).foldl (fun cs (x : Value × Nat) => cs.setIfInBounds (k + n + x.2) x.1) cs := by
  intro l
  induction l with
  | nil => intros; rfl
  | cons y l ih =>
    intro cs k n
    simp only [List.zipIdx_cons, List.foldl_cons, Nat.add_zero]
    rw [ih _ k (n + 1), ih _ (k + n) (0 + 1)]
    simp [Nat.add_assoc, Nat.add_comm, Nat.add_left_comm]
theorem fold_get : ∀ (l : List Value) (cs : Array Value) (k j : Nat), k + l.length ≤ cs.size →
    ((l.zipIdx 0).foldl (fun cs (x : Value × Nat) => cs.setIfInBounds (k + x.2) x.1) cs)[j]? = (if k ≤ j ∧ j < k + l.length then l[j - k]? else cs[j]?) ∧
    ((l.zipIdx 0).foldl (fun cs (x : Value × Nat) => cs.setIfInBounds (k + x.2) x.1) cs).size = cs.size := by
  intro l
  induction l with
  | nil => intro cs k j h; simp; intros; omega
  | cons y l ih =>
    intro cs k j h
    simp only [List.length_cons] at h
    simp only [List.zipIdx_cons, List.foldl_cons, Nat.add_zero]
    rw [fold_set]
    have hh := ih (cs.setIfInBounds k y) (k + 1) j (by simp; omega)
    simp only [Nat.zero_add] at hh ⊢
    refine ⟨?_, by simpa using hh.2⟩
    rw [hh.1]
    by_cases h1 : k + 1 ≤ j ∧ j < k + 1 + l.length
    · rw [if_pos h1, if_pos (by simp; omega)]
      obtain ⟨m, rfl⟩ : ∃ m, j = k + 1 + m := ⟨j - (k + 1), by omega⟩
      rw [show k + 1 + m - k = m + 1 by omega, show k + 1 + m - (k + 1) = m by omega]
      simp
    · rw [if_neg h1]
      by_cases h2 : j = k
      · subst h2
        have hjs : j < cs.size := by omega
        rw [if_pos (by simp)]
        simp [hjs]
      · rw [if_neg (by simp; omega), Array.getElem?_setIfInBounds_ne (by omega)]
theorem fill_rep {place : Nat → Option (Nat × Nat)} : ∀ (vs : List (Nat × V)) (xs : List (Nat × Value)) (cs : List V) (arr : Array Value) (out : List V),
    fillV place cs vs = some out → vs.length = xs.length → (∀ (j : Nat) (u : Nat × V) (y : Nat × Value), vs[j]? = some u → xs[j]? = some y → u.1 = y.1 ∧ VRep w q g u.2 y.2) →
    cs.length = arr.size → (∀ (j : Nat) (u : V) (y : Value), cs[j]? = some u → arr[j]? = some y → VRep w q g u y) →
    ∃ arr', Instr.fill place arr xs = some arr' ∧ out.length = arr'.size ∧ ∀ (j : Nat) (u : V) (y : Value), out[j]? = some u → arr'[j]? = some y → VRep w q g u y := by
  intro vs
  induction vs with
  | nil =>
    intro xs cs arr out hf hl hr hs ha
    obtain rfl : xs = [] := by cases xs with | nil => rfl | cons => simp at hl
    simp only [fillV, Option.some.injEq] at hf
    subst hf
    exact ⟨arr, rfl, hs, ha⟩
  | cons v vs ih =>
    intro xs cs arr out hf hl hr hs ha
    obtain ⟨i, v⟩ := v
    cases xs with
    | nil => simp at hl
    | cons x xs =>
      obtain ⟨i', x⟩ := x
      obtain ⟨he, hv⟩ := hr 0 (i, v) (i', x) rfl rfl
      simp only at he hv
      subst he
      simp only [fillV] at hf
      cases hp : place i with
      | none => rw [hp] at hf; cases hf
      | some os =>
        obtain ⟨off, size⟩ := os
        rw [hp] at hf
        simp only at hf
        split at hf
        · rename_i hh
          obtain ⟨h1, h2, h3⟩ := hh
          obtain ⟨cells, c1, c2, c3, c4⟩ := hv.cells h3
          have hsz : x.cells.size = size := by rw [c1]; simp; omega
          have hfold := fun j => fold_get cells arr off j (by omega)
          obtain ⟨arr', g1, g2, g3⟩ := ih xs (setL cs off v.cs) ((cells.zipIdx 0).foldl (fun cs (x : Value × Nat) => cs.setIfInBounds (off + x.2) x.1) arr) out hf (by simpa using hl)
            (fun j u y hu hy => hr (j + 1) u y hu hy) (by rw [setL_len (by omega), (hfold 0).2]; exact hs) (by
              intro j u y hu hy
              rw [setL_get (by omega)] at hu
              rw [(hfold j).1] at hy
              by_cases hj : off ≤ j ∧ j < off + v.cs.length
              · rw [if_pos hj] at hu
                rw [if_pos (by omega)] at hy
                exact c3 _ u y hu hy
              · rw [if_neg hj] at hu
                rw [if_neg (by omega)] at hy
                exact ha j u y hu hy)
          refine ⟨arr', ?_, g2, g3⟩
          simp only [Instr.fill, hp]
          rw [if_neg (by simp; omega)]
          rw [← g1]
          congr 1
          rw [c1]
          simp [← Array.foldl_toList]
        · cases hf
theorem parts_rep {ps : List (Nat × Operand)} {vs : List (Nat × V)} (hs : Sim c g s a w) (h : ps.map (fun x => (x.1, s.ev x.2)) = vs.map (fun x => (x.1, some x.2))) :
    vs.length = (ps.map fun x => (x.1, a.eval x.2)).length ∧ ∀ (j : Nat) (u : Nat × V) (y : Nat × Value), vs[j]? = some u → (ps.map fun x => (x.1, a.eval x.2))[j]? = some y → u.1 = y.1 ∧ VRep w (qt c s.H g) g u.2 y.2 := by
  refine ⟨by simpa using (congrArg List.length h).symm, fun j u y hu hy => ?_⟩
  have h1 := congrArg (fun l => l[j]?) h
  simp only [List.getElem?_map, hu, Option.map_some] at h1 hy
  cases h2 : ps[j]? with
  | none => rw [h2] at h1; cases h1
  | some p =>
    rw [h2] at h1 hy
    simp only [Option.map_some, Option.some.injEq, Prod.mk.injEq] at h1 hy
    subst hy
    exact ⟨h1.1.symm, hs.ev h1.2⟩
theorem zero_rep (z : Value) : ∀ (j : Nat) (u : V) (y : Value), (z.cells.toList.map (fun y => V.d (.p y)))[j]? = some u → z.cells[j]? = some y → VRep w q g u y := by
  intro j u y hu hy
  rw [List.getElem?_map] at hu
  have : z.cells.toList[j]? = some y := by simpa using hy
  rw [this] at hu
  simp only [Option.map_some, Option.some.injEq] at hu
  subst hu
  exact .d _ _ (.p _)
theorem rp_build {t : TypeId} {ps : Array (Nat × Operand)} {pl : List (Nat × Nat)} {sz bt : Nat} {z : Value} {vs : List (Nat × V)} {zs l : List V} (hp : Places c.P t pl) (hi : Inf c.P t sz bt z) (ho : o.op = .build t ps)
    (hv : ps.toList.map (fun x => (x.1, s.ev x.2)) = vs.map (fun x => (x.1, some x.2))) (hzs : z.cells.toList.map (fun y => V.d (.p y)) = zs) (hf : fillV (fun i => pl[i]?) zs vs = some l) : RP c o s (.agg l) := fun g a w hs => by
  subst hzs
  obtain ⟨h1, h2⟩ := parts_rep hs hv
  obtain ⟨arr, h3, h4, h5⟩ := fill_rep (w := w) (q := qt c s.H g) (g := g) (place := fun i => pl[i]?) vs (ps.toList.map fun x => (x.1, a.eval x.2)) _ z.cells l hf h1 h2 (by simp) (zero_rep z)
  refine ⟨.agg arr, ?_, fun w' => ?_⟩
  · have := VRep.agg (w := w) (q := qt c s.H g) (g := g) l arr.toList (by simpa using h4) (fun j u y hu hy => h5 j u y hu (by simpa using hy))
    simpa using this
  · obtain ⟨fields, hu, hm⟩ := hp
    obtain ⟨i, hi1, hi2, hi3, hi4⟩ := hi.out
    have hb : c.P.built t (ps.map fun (i, x) => (i, a.eval x)).toList = some arr := by
      simp only [Program.built, hi1, hu, hi4, hm]
      rw [← h3]
      simp
    simp only [execOp, ho, Sem.run_bind, run_build w' t _ arr hb, Result.andThen_ok]
    rfl
/-- A slice literal. -/
theorem sm_sliceG (r : Nat) {t e : TypeId} {ps : Array (Nat × Operand)} {sz bt n : Nat} {z : Value} {vs : List (Nat × V)} {zs l : List V} (hu : c.P.underlying t = some (.slice e)) (hi : Inf c.P e sz bt z) (ho : o.op = .buildSlice t n ps)
    (hzs : z.cells.size = sz) (hn : 0 < n * sz) (hn2 : n * sz ≤ 1000000) (hn3 : n ≤ 1000000)
    (hv : ps.toList.map (fun x => (x.1, s.ev x.2)) = vs.map (fun x => (x.1, some x.2))) (hzl : (List.range (n * sz)).map (fun j => V.d (.p z.cells[j % z.cells.size]!)) = zs) (hf : fillV (fun i => some (i * sz, sz)) zs vs = some l) (hl : l.length = n * sz)
    (hr : s.clean r = true) (hrl : V.hasL r l = false) (hd : dok s o = true) : StepG c o s r (fun s' => s' = s.newObj r ⟨e, l, false, sz⟩ o.dst (.own r sz n false)) :=
  sm_newG (cap := n) hr rfl hrl hd (fun g a w hs => by
    subst hzl
    obtain ⟨h1, h2⟩ := parts_rep hs hv
    obtain ⟨arr, h3, h4, h5⟩ := fill_rep (w := w) (q := qt c s.H g) (g := g) (place := fun i => some (i * sz, sz)) vs (ps.toList.map fun x => (x.1, a.eval x.2)) _ ((Array.range (n * sz)).map (z.cells[· % z.cells.size]!)) l hf h1 h2 (by simp) (by
      intro j u y hu hy
      rw [List.getElem?_map] at hu
      simp only [Array.getElem?_map] at hy
      by_cases hj : j < n * sz
      · rw [List.getElem?_range hj] at hu
        simp [hj] at hy hu
        subst hu hy
        exact .d _ _ (.p _)
      · rw [List.getElem?_eq_none (by simpa using hj)] at hu
        cases hu)
    refine ⟨arr, .slice (some ⟨w.heap.size, 0, none⟩) n n, fun _ => by simp only; omega, ?_, fun j u hu => ?_, ?_⟩
    · have : ¬ (n * sz > 2 ^ 24) := by omega
      have h0 : ¬ (n * sz = 0) := by omega
      simp [execOp, ho, Instr.buildSlice, run_underlying hu, run_sizeOf hi, h0, run_zeroValue hi, newRow]
      rw [if_neg (by omega)]
      simp [h3]
    · have hj : j < arr.size := by rw [← h4]; exact (List.getElem?_eq_some_iff.1 hu).1
      exact ⟨arr[j], Array.getElem?_eq_getElem hj, h5 j u _ hu (Array.getElem?_eq_getElem hj)⟩
    · exact VRep.own (g := fun _ => (w.heap.size, n)) _ _ _ (Nat.le_refl _) (by simp only [maxLen]; omega)) ⟨0, .inr ⟨_, _, rfl⟩⟩
theorem sm_slice (r : Nat) {t e : TypeId} {ps : Array (Nat × Operand)} {sz bt n : Nat} {z : Value} {vs : List (Nat × V)} {zs l : List V} (hu : c.P.underlying t = some (.slice e)) (hi : Inf c.P e sz bt z) (ho : o.op = .buildSlice t n ps)
    (hzs : z.cells.size = sz) (hn : 0 < n * sz) (hn2 : n * sz ≤ 1000000) (hn3 : n ≤ 1000000)
    (hv : ps.toList.map (fun x => (x.1, s.ev x.2)) = vs.map (fun x => (x.1, some x.2))) (hzl : (List.range (n * sz)).map (fun j => V.d (.p z.cells[j % z.cells.size]!)) = zs) (hf : fillV (fun i => some (i * sz, sz)) zs vs = some l) (hl : l.length = n * sz)
    (hr : s.clean r = true) (hrl : V.hasL r l = false) (hd : dok s o = true) : StepM c o s (fun s' => s' = s.newObj r ⟨e, l, false, sz⟩ o.dst (.own r sz n false)) := (sm_sliceG r hu hi ho hzs hn hn2 hn3 hv hzl hf hl hr hrl hd).stepM
end
end Go.Proofs.YthiknkcigcglkaaDoor
