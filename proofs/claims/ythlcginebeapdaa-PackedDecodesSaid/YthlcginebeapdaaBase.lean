/- Words for what memory holds: a slice whose elements read as a list; old memory that is as it was; and the laws on append in these words. -/
import Derived.Test.YthlcginebeapdaaRows
import Derived.WalkKit
import Derived.WalkSpells
import Derived.WalkLawsBesides
import Derived.Lib.Hide
import Derived.Laws.AppendOwnNone
import Derived.Deep.AppendLies
import Derived.Deep.RegionHeld3
import Derived.Deep.RegionLaw
import Derived.Deep.QuietTactic
import Derived.BigQuiet
namespace Go.Proofs.Ythlcginebeapdaa
open Go.RowKit
set_option linter.unusedSimpArgs false
set_option linter.unusedVariables false

theorem ret1i {k : IntKind} {a b : Int} (h : a = b) : Ending.returned (.int k a) = .returned (.int k b) := by rw [h]
theorem ret1b {a b : Bool} (h : a = b) : Ending.returned (.bool a) = .returned (.bool b) := by rw [h]
theorem ret2ii {k l : IntKind} {a b c d : Int} (h : a = b) (g : c = d) : Ending.returned (.tuple #[.int k a, .int l c]) = .returned (.tuple #[.int k b, .int l d]) := by rw [h, g]
theorem ret2vi {l : IntKind} {v : Value} {c d : Int} (g : c = d) : Ending.returned (.tuple #[v, .int l c]) = .returned (.tuple #[v, .int l d]) := by rw [g]

theorem bcell {W w1 : World} (hb : Below W.heap.size W w1) : (∀ b o, b < W.heap.size → w1.cell? ⟨b, o, none⟩ = W.cell? ⟨b, o, none⟩) ∧ (∀ b o, b < W.heap.size → w1.frozen? ⟨b, o, none⟩ = W.frozen? ⟨b, o, none⟩) :=
  ⟨fun b o h => hb.cell (p := ⟨b, o, none⟩) h, fun b o h => hb.frozen (p := ⟨b, o, none⟩) h⟩
@[simp] theorem lt_plus2 (n : Nat) : n < n + 1 + 1 := by omega
@[simp] theorem le_plus2 (n : Nat) : n ≤ n + 1 + 1 := by omega
@[simp] theorem lt_plus3 (n : Nat) : n < n + 1 + 1 + 1 := by omega
@[simp] theorem le_plus3 (n : Nat) : n ≤ n + 1 + 1 + 1 := by omega
@[simp] theorem lt_plus4 (n : Nat) : n < n + 1 + 1 + 1 + 1 := by omega
@[simp] theorem le_plus4 (n : Nat) : n ≤ n + 1 + 1 + 1 + 1 := by omega
@[simp] theorem lt_plus5 (n : Nat) : n < n + 1 + 1 + 1 + 1 + 1 := by omega
@[simp] theorem le_plus5 (n : Nat) : n ≤ n + 1 + 1 + 1 + 1 + 1 := by omega
@[simp] theorem lt_plus6 (n : Nat) : n < n + 1 + 1 + 1 + 1 + 1 + 1 := by omega
@[simp] theorem le_plus6 (n : Nat) : n ≤ n + 1 + 1 + 1 + 1 + 1 + 1 := by omega
@[simp] theorem lt_plus7 (n : Nat) : n < n + 1 + 1 + 1 + 1 + 1 + 1 + 1 := by omega
@[simp] theorem le_plus7 (n : Nat) : n ≤ n + 1 + 1 + 1 + 1 + 1 + 1 + 1 := by omega
@[simp] theorem lt_plus8 (n : Nat) : n < n + 1 + 1 + 1 + 1 + 1 + 1 + 1 + 1 := by omega
@[simp] theorem le_plus8 (n : Nat) : n ≤ n + 1 + 1 + 1 + 1 + 1 + 1 + 1 + 1 := by omega
@[simp] theorem lt_plus9 (n : Nat) : n < n + 1 + 1 + 1 + 1 + 1 + 1 + 1 + 1 + 1 := by omega
@[simp] theorem le_plus9 (n : Nat) : n ≤ n + 1 + 1 + 1 + 1 + 1 + 1 + 1 + 1 + 1 := by omega
@[simp] theorem lt_plus10 (n : Nat) : n < n + 1 + 1 + 1 + 1 + 1 + 1 + 1 + 1 + 1 + 1 := by omega
@[simp] theorem le_plus10 (n : Nat) : n ≤ n + 1 + 1 + 1 + 1 + 1 + 1 + 1 + 1 + 1 + 1 := by omega
@[simp] theorem le_of_lt_s (a n : Nat) (h : a < n) : a ≤ n := by omega
@[simp] theorem ne_of_lt_s (a n : Nat) (h : a < n) : ¬ a = n := by omega
@[simp] theorem lt_past1 (a n : Nat) (h : a < n) : a < n + 1 := by omega
@[simp] theorem le_past1 (a n : Nat) (h : a < n) : a ≤ n + 1 := by omega
@[simp] theorem ne_past1 (a n : Nat) (h : a < n) : ¬ a = n + 1 := by omega
@[simp] theorem lt_past2 (a n : Nat) (h : a < n) : a < n + 1 + 1 := by omega
@[simp] theorem le_past2 (a n : Nat) (h : a < n) : a ≤ n + 1 + 1 := by omega
@[simp] theorem ne_past2 (a n : Nat) (h : a < n) : ¬ a = n + 1 + 1 := by omega
@[simp] theorem lt_past3 (a n : Nat) (h : a < n) : a < n + 1 + 1 + 1 := by omega
@[simp] theorem le_past3 (a n : Nat) (h : a < n) : a ≤ n + 1 + 1 + 1 := by omega
@[simp] theorem ne_past3 (a n : Nat) (h : a < n) : ¬ a = n + 1 + 1 + 1 := by omega
@[simp] theorem lt_past4 (a n : Nat) (h : a < n) : a < n + 1 + 1 + 1 + 1 := by omega
@[simp] theorem le_past4 (a n : Nat) (h : a < n) : a ≤ n + 1 + 1 + 1 + 1 := by omega
@[simp] theorem ne_past4 (a n : Nat) (h : a < n) : ¬ a = n + 1 + 1 + 1 + 1 := by omega
@[simp] theorem lt_past5 (a n : Nat) (h : a < n) : a < n + 1 + 1 + 1 + 1 + 1 := by omega
@[simp] theorem le_past5 (a n : Nat) (h : a < n) : a ≤ n + 1 + 1 + 1 + 1 + 1 := by omega
@[simp] theorem ne_past5 (a n : Nat) (h : a < n) : ¬ a = n + 1 + 1 + 1 + 1 + 1 := by omega
@[simp] theorem lt_past6 (a n : Nat) (h : a < n) : a < n + 1 + 1 + 1 + 1 + 1 + 1 := by omega
@[simp] theorem le_past6 (a n : Nat) (h : a < n) : a ≤ n + 1 + 1 + 1 + 1 + 1 + 1 := by omega
@[simp] theorem ne_past6 (a n : Nat) (h : a < n) : ¬ a = n + 1 + 1 + 1 + 1 + 1 + 1 := by omega
@[simp] theorem lt_past7 (a n : Nat) (h : a < n) : a < n + 1 + 1 + 1 + 1 + 1 + 1 + 1 := by omega
@[simp] theorem le_past7 (a n : Nat) (h : a < n) : a ≤ n + 1 + 1 + 1 + 1 + 1 + 1 + 1 := by omega
@[simp] theorem ne_past7 (a n : Nat) (h : a < n) : ¬ a = n + 1 + 1 + 1 + 1 + 1 + 1 + 1 := by omega
@[simp] theorem lt_past8 (a n : Nat) (h : a < n) : a < n + 1 + 1 + 1 + 1 + 1 + 1 + 1 + 1 := by omega
@[simp] theorem le_past8 (a n : Nat) (h : a < n) : a ≤ n + 1 + 1 + 1 + 1 + 1 + 1 + 1 + 1 := by omega
@[simp] theorem ne_past8 (a n : Nat) (h : a < n) : ¬ a = n + 1 + 1 + 1 + 1 + 1 + 1 + 1 + 1 := by omega
theorem blt {w : World} {b o : Nat} {v : Value} (h : w.cell? ⟨b, o, none⟩ = some v) : b < w.heap.size := World.block_lt_of_cell? w _ h

/-- What a call leaves as it was, in the form of rules for the walk: cells, frozen cells, and that old blocks are still blocks. -/
theorem bkeep {W w1 : World} (hb : Below W.heap.size W w1) : (∀ b o, b < W.heap.size → w1.cell? ⟨b, o, none⟩ = W.cell? ⟨b, o, none⟩) ∧ (∀ b o, b < W.heap.size → w1.frozen? ⟨b, o, none⟩ = W.frozen? ⟨b, o, none⟩) ∧
    (∀ b, b < W.heap.size → b < w1.heap.size) ∧ (∀ b, b < W.heap.size → b ≤ w1.heap.size) ∧ (∀ b, b < W.heap.size → ¬ b = w1.heap.size) :=
  ⟨fun b o h => hb.cell (p := ⟨b, o, none⟩) h, fun b o h => hb.frozen (p := ⟨b, o, none⟩) h, fun b h => Nat.lt_of_lt_of_le h hb.size, fun b h => Nat.le_of_lt (Nat.lt_of_lt_of_le h hb.size), fun b h => Nat.ne_of_lt (Nat.lt_of_lt_of_le h hb.size)⟩
theorem Below.drewN {B : Nat} {a w : World} (h : Below B a w) (n : Nat) : Below B a (w.drewN n) := ⟨h.os, h.tape, h.output, h.size, h.block⟩

theorem Below.al {a w : World} (h : Below a.heap.size a w) (o : Obj) : Below a.heap.size a (w.alloc o) := h.alloc h.size o
theorem Below.dr {a w : World} (h : Below a.heap.size a w) (n : Nat) : Below a.heap.size a (w.drewN n) := Below.drewN h n
theorem Below.d1 {a w : World} (h : Below a.heap.size a w) : Below a.heap.size a w.drew := h.drew
theorem Below.tr {a b c : World} (h : Below a.heap.size a b) (g : Below b.heap.size b c) : Below a.heap.size a c := h.trans (g.mono h.size)

/-- A quiet callee behind draws that have been added up. -/
theorem quiet_plus {P : Program} {f : FuncId} {args : Array Value} {w : World} {a n : Nat} {v : Value}
    (h : Calls P f args (w.drewN (a + n)) fun e w' => e = .returned v ∧ ∃ m, w' = (w.drewN (a + n)).drewN m) :
    Calls P f args (w.drewN (a + n)) fun e w'' => e = .returned v ∧ ∃ m, w'' = w.drewN (a + m) :=
  h.mono fun _ _ ⟨he, m, hm⟩ => ⟨he, n + m, by rw [hm, World.drewN_drewN, Nat.add_assoc]⟩

/-- The value v is a slice whose elements read as l, each by its cells. -/
def SlAt {α : Type} (w : World) (sz bytes : Nat) (cells : α → List Value) (v : Value) (l : List α) : Prop :=
  ∃ a cap, v = .slice a l.length cap ∧ l.length * bytes ≤ 140737488355328 ∧ ((a = none → cap = 0) ∧ l.length ≤ cap) ∧
    ∀ i, i < l.length → ∃ b o x, a = some ⟨b, o, none⟩ ∧ l[i]? = some x ∧ ∀ j, j < sz → w.cell? ⟨b, o + i * sz + j, none⟩ = (cells x)[j]?

section
variable {α : Type} {w w' : World} {sz bytes : Nat} {cells : α → List Value} {v : Value} {l : List α} {a : Option Addr} {len cap : Nat}

theorem SlAt.at (h : SlAt w sz bytes cells (.slice a len cap) l) {i : Nat} (hi : i < len) :
    ∃ b o x, a = some ⟨b, o, none⟩ ∧ l[i]? = some x ∧ ∀ j, j < sz → w.cell? ⟨b, o + i * sz + j, none⟩ = (cells x)[j]? := by
  obtain ⟨a', cap', hv, _, _, hc⟩ := h
  simp only [Value.slice.injEq] at hv
  obtain ⟨rfl, rfl, rfl⟩ := hv
  exact hc i hi

theorem SlAt.val (h : SlAt w sz bytes cells v l) : ∃ a cap, v = .slice a l.length cap := by
  obtain ⟨a', cap', hv, _⟩ := h
  exact ⟨_, _, hv⟩

theorem SlAt.length_eq (h : SlAt w sz bytes cells (.slice a len cap) l) : l.length = len := by
  obtain ⟨a', cap', hv, _⟩ := h
  simp only [Value.slice.injEq] at hv
  exact hv.2.1.symm

theorem SlAt.lt (h : SlAt w sz bytes cells v l) : l.length * bytes ≤ 140737488355328 := by
  obtain ⟨a', cap', hv, hl, _⟩ := h
  exact hl

theorem SlAt.mono (h : SlAt w sz bytes cells v l) (hb : Below w.heap.size w w') (hs : 0 < sz) (hne : ∀ x, (cells x).length = sz) : SlAt w' sz bytes cells v l := by
  obtain ⟨a, cap, hv, hl, hn, hc⟩ := h
  refine ⟨a, cap, hv, hl, hn, fun i hi => ?_⟩
  obtain ⟨b, o, x, ha, hx, hcell⟩ := hc i hi
  refine ⟨b, o, x, ha, hx, fun j hj => ?_⟩
  have h0 := hcell j hj
  have hlt : j < (cells x).length := by rw [hne]; exact hj
  rw [List.getElem?_eq_getElem hlt] at h0 ⊢
  exact (hb.cell (World.block_lt_of_cell? w _ h0)).trans h0

theorem take_snoc {l : List α} {k : Nat} {x : α} (h : l[k]? = some x) : l.take (k + 1) = l.take k ++ [x] := by
  obtain ⟨hlt, rfl⟩ := List.getElem?_eq_some_iff.1 h
  rw [List.take_succ_eq_append_getElem hlt]

theorem flatMap_len (hne : ∀ x, (cells x).length = sz) (l : List α) : (l.flatMap cells).length = l.length * sz := by
  induction l with
  | nil => simp
  | cons x r ih => simp [ih, hne, Nat.succ_mul, Nat.add_comm]

theorem flatMap_get (hne : ∀ x, (cells x).length = sz) : ∀ (l : List α) (i : Nat) (x : α), l[i]? = some x → ∀ j, j < sz → (l.flatMap cells)[i * sz + j]? = (cells x)[j]?
  | [], i, x, h, _, _ => by simp at h
  | y :: r, 0, x, h, j, hj => by
    simp at h
    subst h
    rw [List.flatMap_cons, List.getElem?_append_left (by rw [hne]; omega)]
    simp
  | y :: r, i + 1, x, h, j, hj => by
    rw [List.flatMap_cons, List.getElem?_append_right (by rw [hne, Nat.succ_mul]; omega), hne]
    rw [show (i + 1) * sz + j - sz = i * sz + j by rw [Nat.succ_mul]; omega]
    exact flatMap_get hne r i x (by simpa using h) j hj

/-- What is owned reads. -/
theorem SlAt.of_owns {base : Nat} {e : TypeId} (hne : ∀ x, (cells x).length = sz) (h : w.ownsRow base e sz v l.length (l.flatMap cells)) (hb : l.length * bytes ≤ 140737488355328) : SlAt w sz bytes cells v l := by
  obtain ⟨hlen, hr⟩ := id h
  rcases hr with ⟨rfl, h0⟩ | ⟨g, cap, cur, rfl, hbg, hg, hnc, hcm, hcs, htake⟩
  · refine ⟨none, 0, by rw [h0], hb, ⟨fun _ => rfl, by omega⟩, fun i hi => ?_⟩
    omega
  · refine ⟨some ⟨g, 0, none⟩, cap, rfl, hb, ⟨(fun hx => by cases hx), by omega⟩, fun i hi => ⟨g, 0, l[i], rfl, List.getElem?_eq_getElem hi, fun j hj => ?_⟩⟩
    have hlt : i * sz + j < l.length * sz := by
      have : (i + 1) * sz ≤ l.length * sz := Nat.mul_le_mul_right _ hi
      rw [Nat.succ_mul] at this
      omega
    have := h.cellAt (i * sz + j) hlt
    rw [flatMap_get hne l i l[i] (List.getElem?_eq_getElem hi) j hj] at this
    simpa using this

theorem SlAt.nil (w : World) (sz bytes : Nat) (cells : α → List Value) : SlAt w sz bytes cells (.slice none 0 0) [] := ⟨none, 0, rfl, by simp, ⟨fun _ => rfl, Nat.le_refl 0⟩, fun i hi => by simp at hi⟩
end

theorem in_flatMap {α : Type} {sz : Nat} {cells : α → List Value} (hne : ∀ x, (cells x).length = sz) {l : List α} {k : Nat} (h : k < l.length * sz) :
    ∃ i x, l[i]? = some x ∧ i < l.length ∧ k % sz < sz ∧ k = i * sz + k % sz := by
  have hs : 0 < sz := by
    rcases Nat.eq_zero_or_pos sz with h0 | h0
    · subst h0; simp at h
    · exact h0
  have hi : k / sz < l.length := by rw [Nat.div_lt_iff_lt_mul hs]; exact h
  refine ⟨k / sz, l[k / sz], List.getElem?_eq_getElem hi, hi, Nat.mod_lt _ hs, ?_⟩
  have := Nat.div_add_mod k sz
  rw [Nat.mul_comm] at this
  exact this.symm

theorem addr_add (b o k : Nat) : (⟨b, o, none⟩ : Addr).add k = ⟨b, o + k, none⟩ := by
  unfold Addr.add
  split
  · rename_i h; subst h; rfl
  · rfl

/-- Four cells and a cell that may be written, over a step that leaves their blocks. -/
theorem keep4f {W W' : World} {b1 o1 b2 o2 b3 o3 b4 o4 b5 o5 : Nat} {v1 v2 v3 v4 : Value}
    (h : W.cell? ⟨b1, o1, none⟩ = some v1 ∧ W.cell? ⟨b2, o2, none⟩ = some v2 ∧ W.cell? ⟨b3, o3, none⟩ = some v3 ∧ W.cell? ⟨b4, o4, none⟩ = some v4 ∧ W.frozen? ⟨b5, o5, none⟩ = false)
    (hs : ∀ k, k = b1 ∨ k = b2 ∨ k = b3 ∨ k = b4 ∨ k = b5 → W'.heap[k]? = W.heap[k]?) :
    W'.cell? ⟨b1, o1, none⟩ = some v1 ∧ W'.cell? ⟨b2, o2, none⟩ = some v2 ∧ W'.cell? ⟨b3, o3, none⟩ = some v3 ∧ W'.cell? ⟨b4, o4, none⟩ = some v4 ∧ W'.frozen? ⟨b5, o5, none⟩ = false :=
  ⟨(World.cell?_of_block (w := W) (a := ⟨b1, o1, none⟩) (hs _ (by simp))).trans h.1, (World.cell?_of_block (w := W) (a := ⟨b2, o2, none⟩) (hs _ (by simp))).trans h.2.1, (World.cell?_of_block (w := W) (a := ⟨b3, o3, none⟩) (hs _ (by simp))).trans h.2.2.1,
    (World.cell?_of_block (w := W) (a := ⟨b4, o4, none⟩) (hs _ (by simp))).trans h.2.2.2.1, (World.frozen?_of_block (w := W) (a := ⟨b5, o5, none⟩) (hs _ (by simp))).trans h.2.2.2.2⟩

theorem SlAt.keep {α : Type} {w w' : World} {sz bytes : Nat} {cells : α → List Value} {v : Value} {l : List α} (h : SlAt w sz bytes cells v l) (hk : ∀ k, v.ownBlock = some k → w'.heap[k]? = w.heap[k]?) : SlAt w' sz bytes cells v l := by
  obtain ⟨a, cap, rfl, hl, hn, hc⟩ := h
  refine ⟨a, cap, rfl, hl, hn, fun i hi => ?_⟩
  obtain ⟨b, o, x, ha, hx, hcell⟩ := hc i hi
  refine ⟨b, o, x, ha, hx, fun j hj => ?_⟩
  subst ha
  rw [World.cell?_of_block (w := w) (hk b rfl)]
  exact hcell j hj

section
variable {α : Type} {P : Program} {w : World} {ops : Array Oper} {rest : List Oper} {o : Oper} {a : Act} {K : Act → World → Prop} {Q : Exit → Act → World → Prop}

/-- 'append([]T(nil), x...)': a copy that reads as x does; old memory is as it was. -/
theorem wp_append_clone (s x : Operand) (t : TypeId)
    (ho : o.op = .call { callee := .builtin .append, args := #[s, x], argTypes := #[t, t] }) (hs : a.eval s = .slice none 0 0)
    (e : TypeId) (sz bytes : Nat) (z : Value) (ht : P.underlying t = some (.slice e)) (hi : (P.info? e).map (fun i => (i.zero, i.size, i.bytes)) = some (some z, sz, bytes)) (hzs : z.cells.size = sz) (hsz : 0 < sz) (hby : 0 < bytes)
    (cells : α → List Value) (hne : ∀ y, (cells y).length = sz) (hone : ∀ y, ∀ u ∈ cells y, u.oneCell' = true)
    (v : Value) (l : List α) (hx : a.eval x = v) (hl : SlAt w sz bytes cells v l)
    (h : ∀ v' w', w'.ownsRow w.heap.size e sz v' l.length (l.flatMap cells) → SlAt w' sz bytes cells v' l → Below w.heap.size w w' → (v' = .slice none 0 0 ↔ l = []) → K (a.put o.dst v') w') : o.wp P a w K Q := by
  obtain ⟨i, hi, hz, hz1, hz2⟩ := info_parts hi
  obtain ⟨ad, cap, rfl, hlb, hcap, hc⟩ := hl
  cases ad with
  | none =>
    have hl0 : l = [] := by
      cases l with
      | nil => rfl
      | cons y r => obtain ⟨b, o, x, hx', _⟩ := hc 0 (by simp); cases hx'
    subst hl0
    rw [hcap.1 rfl] at hx
    have hrun := run_append_owned_none (P := P) (w := w) w.heap.size t o.type e i sz ht hi _ 0 [] (World.ownsRow_nil _ _ _ _)
    unfold Oper.wp execOp
    simp only [ho, resolve, invoke, builtin, Sem.run_bind, Sem.run_pure, Result.andThen_ok, List.map_toArray, List.map_cons, List.map_nil, hs, hx, List.length_nil, hrun]
    exact h _ w (World.ownsRow_nil _ _ _ _) (SlAt.nil _ _ _ _) (Below.refl _ _) (by simp)
  | some ad =>
    refine wp_append_own _ s x t ho w.heap.size e i z sz bytes ht hi hz hz1 hz2 hzs hsz _ 0 [] hs (World.ownsRow_nil _ _ _ _) ad l.length cap (l.flatMap cells) hx (flatMap_len hne l) ?_ ?_ ?_ ?_ (Nat.le_refl _) ?_
    · intro k u hu
      have hk : k < l.length * sz := by
        have := (List.getElem?_eq_some_iff.1 hu).1
        rwa [flatMap_len hne] at this
      obtain ⟨i', x', hx', hi', hm, hkk⟩ := in_flatMap hne hk
      obtain ⟨b, o', y, hy, hly, hcell⟩ := hc i' hi'
      rw [hx'] at hly
      cases hly
      cases hy
      have h1 := hcell (k % sz) hm
      rw [hkk, flatMap_get hne l i' x' hx' _ hm] at hu
      rw [hu] at h1
      rw [hkk]
      rw [addr_add, ← Nat.add_assoc]
      exact h1
    · intro u hu
      obtain ⟨y, _, hy⟩ := List.mem_flatMap.1 hu
      exact hone y u hy
    · have : l.length ≤ l.length * bytes := Nat.le_mul_of_pos_right _ hby
      unfold maxLen; omega
    · simpa using hlb
    · intro v' w' hown hgrow hnil
      simp only [Nat.zero_add, List.nil_append] at hown
      refine h v' w' hown (SlAt.of_owns hne hown hlb) ((Below.refl _ _).grown hgrow (Nat.le_refl _) (by simp [Value.ownBlock])) ?_
      rw [hnil]
      simp

theorem wpList_append_clone (hgd : o.guard = none) (s x : Operand) (t : TypeId)
    (ho : o.op = .call { callee := .builtin .append, args := #[s, x], argTypes := #[t, t] }) (hs : a.eval s = .slice none 0 0)
    (e : TypeId) (sz bytes : Nat) (z : Value) (ht : P.underlying t = some (.slice e)) (hi : (P.info? e).map (fun i => (i.zero, i.size, i.bytes)) = some (some z, sz, bytes)) (hzs : z.cells.size = sz) (hsz : 0 < sz) (hby : 0 < bytes)
    (cells : α → List Value) (hne : ∀ y, (cells y).length = sz) (hone : ∀ y, ∀ u ∈ cells y, u.oneCell' = true)
    (v : Value) (l : List α) (hx : a.eval x = v) (hl : SlAt w sz bytes cells v l)
    (h : ∀ v' w', w'.ownsRow w.heap.size e sz v' l.length (l.flatMap cells) → SlAt w' sz bytes cells v' l → Below w.heap.size w w' → (v' = .slice none 0 0 ↔ l = []) → wpList P ops Q rest (a.put o.dst v') w') : wpList P ops Q (o :: rest) a w :=
  wpList_plain hgd fun _ hK => wp_append_clone s x t ho hs e sz bytes z ht hi hzs hsz hby cells hne hone v l hx hl fun v' w' h1 h2 h3 h4 => hK _ _ (h v' w' h1 h2 h3 h4)

/-- At a step of a region that draws its order. -/
theorem step_append_clone {E : Prop} (hgd : o.guard = none) (s x : Operand) (t : TypeId)
    (ho : o.op = .call { callee := .builtin .append, args := #[s, x], argTypes := #[t, t] }) (hs : a.eval s = .slice none 0 0)
    (e : TypeId) (sz bytes : Nat) (z : Value) (ht : P.underlying t = some (.slice e)) (hi : (P.info? e).map (fun i => (i.zero, i.size, i.bytes)) = some (some z, sz, bytes)) (hzs : z.cells.size = sz) (hsz : 0 < sz) (hby : 0 < bytes)
    (cells : α → List Value) (hne : ∀ y, (cells y).length = sz) (hone : ∀ y, ∀ u ∈ cells y, u.oneCell' = true)
    (v : Value) (l : List α) (hx : a.eval x = v) (hl : SlAt w sz bytes cells v l)
    (h : ∀ v' w', w'.ownsRow w.heap.size e sz v' l.length (l.flatMap cells) → SlAt w' sz bytes cells v' l → Below w.heap.size w w' → (v' = .slice none 0 0 ↔ l = []) → K (a.put o.dst v') w') :
    if Region.wanted o (yielded ops a.tmps) = true then Oper.wp P o a w K Q else E := by
  have hw : Region.wanted o (yielded ops a.tmps) = true := by simp [Region.wanted, hgd]
  rw [if_pos hw]
  exact wp_append_clone s x t ho hs e sz bytes z ht hi hzs hsz hby cells hne hone v l hx hl h

/-- A new row's cells. -/
theorem new_row_cells (w : World) (row : List Value) (e : TypeId) : ∀ j u, row[j]? = some u → (w.alloc (.cells row.toArray e)).cell? ((⟨w.heap.size, 0, none⟩ : Addr).add j) = some u := by
  intro j u hu
  have hadd : (⟨w.heap.size, 0, none⟩ : Addr).add j = ⟨w.heap.size, j, none⟩ := by rw [addr_add, Nat.zero_add]
  rw [hadd, cell_of_row _ w.heap.size j row.toArray e (0, 0) (heap_alloc_new w _)]
  simpa using hu

/-- 'append(s, x)' of one element, s the call's own; the element's cells lie at ad. -/
theorem wp_append_at (s x : Operand) (t : TypeId)
    (ho : o.op = .call { callee := .builtin .append, args := #[s, x], argTypes := #[t, t] })
    (base : Nat) (e : TypeId) (sz bytes : Nat) (z : Value) (ht : P.underlying t = some (.slice e)) (hi : (P.info? e).map (fun i => (i.zero, i.size, i.bytes)) = some (some z, sz, bytes)) (hzs : z.cells.size = sz) (hsz : 0 < sz) (hby : 0 < bytes)
    (cells : α → List Value) (hne : ∀ y, (cells y).length = sz)
    (v : Value) (l : List α) (hs : a.eval s = v) (hown : w.ownsRow base e sz v l.length (l.flatMap cells)) (y : α) (hone : ∀ u ∈ cells y, u.oneCell' = true) (ad : Addr) (c : Nat)
    (hx : a.eval x = .slice (some ad) 1 c) (hnews : ∀ j u, (cells y)[j]? = some u → w.cell? (ad.add j) = some u) (hlb : (l.length + 1) * bytes ≤ 140737488355328) (hbase : base ≤ w.heap.size)
    (h : ∀ v' w', w'.ownsRow base e sz v' (l.length + 1) ((l ++ [y]).flatMap cells) → (∃ g cap, v' = .slice (some ⟨g, 0, none⟩) (l.length + 1) cap ∧ (v.ownBlock = some g ∨ g = w.heap.size) ∧ g < w'.heap.size) → w.grownBy w' v.ownBlock → K (a.put o.dst v') w') : o.wp P a w K Q := by
  obtain ⟨i, hi, hz, hz1, hz2⟩ := info_parts hi
  refine wp_append_lies _ s x t ho base e i z sz bytes ht hi hz hz1 hz2 hzs hsz v l.length (l.flatMap cells) hs hown ad 1 c (cells y) hx (by rw [hne]; omega) hnews hone (by omega) ?_ hlb hbase w.heap.size rfl ?_
  · have : l.length + 1 ≤ (l.length + 1) * bytes := Nat.le_mul_of_pos_right _ hby
    unfold maxLen; omega
  · intro g cap w' hown' hgrow hg hlt
    have hown'' : w'.ownsRow base e sz (.slice (some ⟨g, 0, none⟩) (l.length + 1) cap) (l.length + 1) ((l ++ [y]).flatMap cells) := by simpa using hown'
    exact h _ w' hown'' ⟨g, cap, rfl, hg, hlt⟩ hgrow

theorem wpList_append_at (hgd : o.guard = none) (s x : Operand) (t : TypeId)
    (ho : o.op = .call { callee := .builtin .append, args := #[s, x], argTypes := #[t, t] })
    (base : Nat) (e : TypeId) (sz bytes : Nat) (z : Value) (ht : P.underlying t = some (.slice e)) (hi : (P.info? e).map (fun i => (i.zero, i.size, i.bytes)) = some (some z, sz, bytes)) (hzs : z.cells.size = sz) (hsz : 0 < sz) (hby : 0 < bytes)
    (cells : α → List Value) (hne : ∀ y, (cells y).length = sz)
    (v : Value) (l : List α) (hs : a.eval s = v) (hown : w.ownsRow base e sz v l.length (l.flatMap cells)) (y : α) (hone : ∀ u ∈ cells y, u.oneCell' = true) (ad : Addr) (c : Nat)
    (hx : a.eval x = .slice (some ad) 1 c) (hnews : ∀ j u, (cells y)[j]? = some u → w.cell? (ad.add j) = some u) (hlb : (l.length + 1) * bytes ≤ 140737488355328) (hbase : base ≤ w.heap.size)
    (h : ∀ v' w', w'.ownsRow base e sz v' (l.length + 1) ((l ++ [y]).flatMap cells) → (∃ g cap, v' = .slice (some ⟨g, 0, none⟩) (l.length + 1) cap ∧ (v.ownBlock = some g ∨ g = w.heap.size) ∧ g < w'.heap.size) → w.grownBy w' v.ownBlock → wpList P ops Q rest (a.put o.dst v') w') : wpList P ops Q (o :: rest) a w :=
  wpList_plain hgd fun _ hK => wp_append_at s x t ho base e sz bytes z ht hi hzs hsz hby cells hne v l hs hown y hone ad c hx hnews hlb hbase fun v' w' h1 h2 h3 => hK _ _ (h v' w' h1 h2 h3)

theorem step_append_at {E : Prop} (hgd : o.guard = none) (s x : Operand) (t : TypeId)
    (ho : o.op = .call { callee := .builtin .append, args := #[s, x], argTypes := #[t, t] })
    (base : Nat) (e : TypeId) (sz bytes : Nat) (z : Value) (ht : P.underlying t = some (.slice e)) (hi : (P.info? e).map (fun i => (i.zero, i.size, i.bytes)) = some (some z, sz, bytes)) (hzs : z.cells.size = sz) (hsz : 0 < sz) (hby : 0 < bytes)
    (cells : α → List Value) (hne : ∀ y, (cells y).length = sz)
    (v : Value) (l : List α) (hs : a.eval s = v) (hown : w.ownsRow base e sz v l.length (l.flatMap cells)) (y : α) (hone : ∀ u ∈ cells y, u.oneCell' = true) (ad : Addr) (c : Nat)
    (hx : a.eval x = .slice (some ad) 1 c) (hnews : ∀ j u, (cells y)[j]? = some u → w.cell? (ad.add j) = some u) (hlb : (l.length + 1) * bytes ≤ 140737488355328) (hbase : base ≤ w.heap.size)
    (h : ∀ v' w', w'.ownsRow base e sz v' (l.length + 1) ((l ++ [y]).flatMap cells) → (∃ g cap, v' = .slice (some ⟨g, 0, none⟩) (l.length + 1) cap ∧ (v.ownBlock = some g ∨ g = w.heap.size) ∧ g < w'.heap.size) → w.grownBy w' v.ownBlock → K (a.put o.dst v') w') :
    if Region.wanted o (yielded ops a.tmps) = true then Oper.wp P o a w K Q else E := by
  have hw : Region.wanted o (yielded ops a.tmps) = true := by simp [Region.wanted, hgd]
  rw [if_pos hw]
  exact wp_append_at s x t ho base e sz bytes z ht hi hzs hsz hby cells hne v l hs hown y hone ad c hx hnews hlb hbase h
end

/-! ### Integers -/
def intCells (x : Int) : List Value := [.int .i64 x]
theorem intCells_len (x : Int) : (intCells x).length = 1 := rfl
theorem intCells_one (x : Int) : ∀ u ∈ intCells x, u.oneCell' = true := by simp [intCells, Value.oneCell']
def IntsAt (w : World) (v : Value) (xs : List Int) : Prop := SlAt w 1 8 intCells v xs

theorem IntsAt.at {w : World} {a : Option Addr} {len cap : Nat} {xs : List Int} (h : IntsAt w (.slice a len cap) xs) {i : Nat} (hi : i < len) :
    ∃ b o x, a = some ⟨b, o, none⟩ ∧ xs[i]? = some x ∧ w.cell? ⟨b, o + i, none⟩ = some (.int .i64 x) := by
  obtain ⟨b, o, x, ha, hx, hc⟩ := SlAt.at h hi
  exact ⟨b, o, x, ha, hx, by simpa [intCells] using hc 0 (by omega)⟩
theorem IntsAt.opens {w : World} {v : Value} {xs : List Int} (h : IntsAt w v xs) :
    ∃ a len cap, v = .slice a len cap ∧ len ≤ 17592186044416 ∧ Hid (IntsAt w (.slice a len cap) xs) ∧ Hid (xs.length = len) := by
  obtain ⟨a, cap, rfl⟩ := SlAt.val h
  exact ⟨a, _, cap, rfl, by have := SlAt.lt h; omega, h, (rfl : xs.length = xs.length)⟩
theorem IntsAt.lt {w : World} {v : Value} {xs : List Int} (h : IntsAt w v xs) : xs.length ≤ 17592186044416 := by have := SlAt.lt h; omega
theorem IntsAt.mono {w w' : World} {v : Value} {xs : List Int} (h : IntsAt w v xs) (hb : Below w.heap.size w w') : IntsAt w' v xs := SlAt.mono h hb (by omega) intCells_len
end Go.Proofs.Ythlcginebeapdaa
