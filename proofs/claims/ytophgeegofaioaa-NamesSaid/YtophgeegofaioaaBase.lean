/- Words for what memory holds: a slice whose elements read as a list; old memory that is as it was; and the laws on append in these words. -/
import Derived.Test.YtophgeegofaioaaRows
import Derived.WalkKit
import Derived.WalkSpells
import Derived.WalkLawsBesides
import Derived.Lib.Hide
import Derived.Laws.AppendOwnNone
import Derived.Deep.QuietTactic
import Derived.BigQuiet
namespace Go.Proofs.Ytophgeegofaioaa
open Go.RowKit
set_option linter.unusedSimpArgs false
set_option linter.unusedVariables false

theorem ret1i {k : IntKind} {a b : Int} (h : a = b) : Ending.returned (.int k a) = .returned (.int k b) := by rw [h]
theorem ret1b {a b : Bool} (h : a = b) : Ending.returned (.bool a) = .returned (.bool b) := by rw [h]
theorem ret2ii {k l : IntKind} {a b c d : Int} (h : a = b) (g : c = d) : Ending.returned (.tuple #[.int k a, .int l c]) = .returned (.tuple #[.int k b, .int l d]) := by rw [h, g]
theorem ret2vi {l : IntKind} {v : Value} {c d : Int} (g : c = d) : Ending.returned (.tuple #[v, .int l c]) = .returned (.tuple #[v, .int l d]) := by rw [g]

theorem bcell {W w1 : World} (hb : Below W.heap.size W w1) : (∀ b o, b < W.heap.size → w1.cell? ⟨b, o, none⟩ = W.cell? ⟨b, o, none⟩) ∧ (∀ b o, b < W.heap.size → w1.frozen? ⟨b, o, none⟩ = W.frozen? ⟨b, o, none⟩) :=
  ⟨fun b o h => hb.cell (p := ⟨b, o, none⟩) h, fun b o h => hb.frozen (p := ⟨b, o, none⟩) h⟩
@[simp] theorem lt_plus2 (n : Nat) : n < n + 1 + 1 := by omega
@[simp] theorem le_plus2 (n : Nat) : n ≤ n + 1 + 1 := by omega
@[simp] theorem lt_plus3 (n : Nat) : n < n + 1 + 1 + 1 := by omega
@[simp] theorem le_plus3 (n : Nat) : n ≤ n + 1 + 1 + 1 := by omega
@[simp] theorem lt_plus4 (n : Nat) : n < n + 1 + 1 + 1 + 1 := by omega
@[simp] theorem le_plus4 (n : Nat) : n ≤ n + 1 + 1 + 1 + 1 := by omega
@[simp] theorem lt_plus5 (n : Nat) : n < n + 1 + 1 + 1 + 1 + 1 := by omega
@[simp] theorem le_plus5 (n : Nat) : n ≤ n + 1 + 1 + 1 + 1 + 1 := by omega
@[simp] theorem lt_plus6 (n : Nat) : n < n + 1 + 1 + 1 + 1 + 1 + 1 := by omega
@[simp] theorem le_plus6 (n : Nat) : n ≤ n + 1 + 1 + 1 + 1 + 1 + 1 := by omega
@[simp] theorem lt_plus7 (n : Nat) : n < n + 1 + 1 + 1 + 1 + 1 + 1 + 1 := by omega
@[simp] theorem le_plus7 (n : Nat) : n ≤ n + 1 + 1 + 1 + 1 + 1 + 1 + 1 := by omega
@[simp] theorem lt_plus8 (n : Nat) : n < n + 1 + 1 + 1 + 1 + 1 + 1 + 1 + 1 := by omega
@[simp] theorem le_plus8 (n : Nat) : n ≤ n + 1 + 1 + 1 + 1 + 1 + 1 + 1 + 1 := by omega
@[simp] theorem lt_plus9 (n : Nat) : n < n + 1 + 1 + 1 + 1 + 1 + 1 + 1 + 1 + 1 := by omega
@[simp] theorem le_plus9 (n : Nat) : n ≤ n + 1 + 1 + 1 + 1 + 1 + 1 + 1 + 1 + 1 := by omega
@[simp] theorem lt_plus10 (n : Nat) : n < n + 1 + 1 + 1 + 1 + 1 + 1 + 1 + 1 + 1 + 1 := by omega
@[simp] theorem le_plus10 (n : Nat) : n ≤ n + 1 + 1 + 1 + 1 + 1 + 1 + 1 + 1 + 1 + 1 := by omega

/-- What a call leaves as it was, in the form of rules for the walk: cells, frozen cells, and that old blocks are still blocks. -/
theorem bkeep {W w1 : World} (hb : Below W.heap.size W w1) : (∀ b o, b < W.heap.size → w1.cell? ⟨b, o, none⟩ = W.cell? ⟨b, o, none⟩) ∧ (∀ b o, b < W.heap.size → w1.frozen? ⟨b, o, none⟩ = W.frozen? ⟨b, o, none⟩) ∧
    (∀ b, b < W.heap.size → b < w1.heap.size) ∧ (∀ b, b < W.heap.size → b ≤ w1.heap.size) ∧ (∀ b, b < W.heap.size → ¬ b = w1.heap.size) :=
  ⟨fun b o h => hb.cell (p := ⟨b, o, none⟩) h, fun b o h => hb.frozen (p := ⟨b, o, none⟩) h, fun b h => Nat.lt_of_lt_of_le h hb.size, fun b h => Nat.le_of_lt (Nat.lt_of_lt_of_le h hb.size), fun b h => Nat.ne_of_lt (Nat.lt_of_lt_of_le h hb.size)⟩
theorem Below.drewN {B : Nat} {a w : World} (h : Below B a w) (n : Nat) : Below B a (w.drewN n) := ⟨h.os, h.tape, h.output, h.size, h.block⟩

/-- The value v is a slice whose elements read as l, each by its cells. -/
def SlAt {α : Type} (w : World) (sz bytes : Nat) (cells : α → List Value) (v : Value) (l : List α) : Prop :=
  ∃ a cap, v = .slice a l.length cap ∧ l.length * bytes ≤ 140737488355328 ∧ (a = none → cap = 0) ∧
    ∀ i, i < l.length → ∃ b o x, a = some ⟨b, o, none⟩ ∧ l[i]? = some x ∧ ∀ j, j < sz → w.cell? ⟨b, o + i * sz + j, none⟩ = (cells x)[j]?

section
variable {α : Type} {w w' : World} {sz bytes : Nat} {cells : α → List Value} {v : Value} {l : List α} {a : Option Addr} {len cap : Nat}

theorem SlAt.at (h : SlAt w sz bytes cells (.slice a len cap) l) {i : Nat} (hi : i < len) :
    ∃ b o x, a = some ⟨b, o, none⟩ ∧ l[i]? = some x ∧ ∀ j, j < sz → w.cell? ⟨b, o + i * sz + j, none⟩ = (cells x)[j]? := by
  obtain ⟨a', cap', hv, _, _, hc⟩ := h
  simp only [Value.slice.injEq] at hv
  obtain ⟨rfl, rfl, rfl⟩ := hv
  exact hc i hi

theorem SlAt.val (h : SlAt w sz bytes cells v l) : ∃ a cap, v = .slice a l.length cap := by
  obtain ⟨a', cap', hv, _⟩ := h
  exact ⟨_, _, hv⟩

theorem SlAt.length_eq (h : SlAt w sz bytes cells (.slice a len cap) l) : l.length = len := by
  obtain ⟨a', cap', hv, _⟩ := h
  simp only [Value.slice.injEq] at hv
  exact hv.2.1.symm

theorem SlAt.lt (h : SlAt w sz bytes cells v l) : l.length * bytes ≤ 140737488355328 := by
  obtain ⟨a', cap', hv, hl, _⟩ := h
  exact hl

theorem SlAt.mono (h : SlAt w sz bytes cells v l) (hb : Below w.heap.size w w') (hs : 0 < sz) (hne : ∀ x, (cells x).length = sz) : SlAt w' sz bytes cells v l := by
  obtain ⟨a, cap, hv, hl, hn, hc⟩ := h
  refine ⟨a, cap, hv, hl, hn, fun i hi => ?_⟩
  obtain ⟨b, o, x, ha, hx, hcell⟩ := hc i hi
  refine ⟨b, o, x, ha, hx, fun j hj => ?_⟩
  have h0 := hcell j hj
  have hlt : j < (cells x).length := by rw [hne]; exact hj
  rw [List.getElem?_eq_getElem hlt] at h0 ⊢
  exact (hb.cell (World.block_lt_of_cell? w _ h0)).trans h0

theorem take_snoc {l : List α} {k : Nat} {x : α} (h : l[k]? = some x) : l.take (k + 1) = l.take k ++ [x] := by
  obtain ⟨hlt, rfl⟩ := List.getElem?_eq_some_iff.1 h
  rw [List.take_succ_eq_append_getElem hlt]

theorem flatMap_len (hne : ∀ x, (cells x).length = sz) (l : List α) : (l.flatMap cells).length = l.length * sz := by
  induction l with
  | nil => simp
  | cons x r ih => simp [ih, hne, Nat.succ_mul, Nat.add_comm]

theorem flatMap_get (hne : ∀ x, (cells x).length = sz) : ∀ (l : List α) (i : Nat) (x : α), l[i]? = some x → ∀ j, j < sz → (l.flatMap cells)[i * sz + j]? = (cells x)[j]?
  | [], i, x, h, _, _ => by simp at h
  | y :: r, 0, x, h, j, hj => by
    simp at h
    subst h
    rw [List.flatMap_cons, List.getElem?_append_left (by rw [hne]; omega)]
    simp
  | y :: r, i + 1, x, h, j, hj => by
    rw [List.flatMap_cons, List.getElem?_append_right (by rw [hne, Nat.succ_mul]; omega), hne]
    rw [show (i + 1) * sz + j - sz = i * sz + j by rw [Nat.succ_mul]; omega]
    exact flatMap_get hne r i x (by simpa using h) j hj

/-- What is owned reads. -/
theorem SlAt.of_owns {base : Nat} {e : TypeId} (hne : ∀ x, (cells x).length = sz) (h : w.ownsRow base e sz v l.length (l.flatMap cells)) (hb : l.length * bytes ≤ 140737488355328) : SlAt w sz bytes cells v l := by
  obtain ⟨hlen, hr⟩ := id h
  rcases hr with ⟨rfl, h0⟩ | ⟨g, cap, cur, rfl, hbg, hg, hnc, hcm, hcs, htake⟩
  · refine ⟨none, 0, by rw [h0], hb, fun _ => rfl, fun i hi => ?_⟩
    omega
  · refine ⟨some ⟨g, 0, none⟩, cap, rfl, hb, (fun hx => by cases hx), fun i hi => ⟨g, 0, l[i], rfl, List.getElem?_eq_getElem hi, fun j hj => ?_⟩⟩
    have hlt : i * sz + j < l.length * sz := by
      have : (i + 1) * sz ≤ l.length * sz := Nat.mul_le_mul_right _ hi
      rw [Nat.succ_mul] at this
      omega
    have := h.cellAt (i * sz + j) hlt
    rw [flatMap_get hne l i l[i] (List.getElem?_eq_getElem hi) j hj] at this
    simpa using this

theorem SlAt.nil (w : World) (sz bytes : Nat) (cells : α → List Value) : SlAt w sz bytes cells (.slice none 0 0) [] := ⟨none, 0, rfl, by simp, fun _ => rfl, fun i hi => by simp at hi⟩
end

theorem in_flatMap {α : Type} {sz : Nat} {cells : α → List Value} (hne : ∀ x, (cells x).length = sz) {l : List α} {k : Nat} (h : k < l.length * sz) :
    ∃ i x, l[i]? = some x ∧ i < l.length ∧ k % sz < sz ∧ k = i * sz + k % sz := by
  have hs : 0 < sz := by
    rcases Nat.eq_zero_or_pos sz with h0 | h0
    · subst h0; simp at h
    · exact h0
  have hi : k / sz < l.length := by rw [Nat.div_lt_iff_lt_mul hs]; exact h
  refine ⟨k / sz, l[k / sz], List.getElem?_eq_getElem hi, hi, Nat.mod_lt _ hs, ?_⟩
  have := Nat.div_add_mod k sz
  rw [Nat.mul_comm] at this
  exact this.symm

theorem addr_add (b o k : Nat) : (⟨b, o, none⟩ : Addr).add k = ⟨b, o + k, none⟩ := by
  unfold Addr.add
  split
  · rename_i h; subst h; rfl
  · rfl

/-- 'append([]T(nil), x...)': a copy that reads as x does; old memory is as it was. -/
theorem wpList_append_clone {α : Type} {P : Program} {w : World} {ops : Array Oper} {rest : List Oper} {o : Oper} {a : Act} {Q : Exit → Act → World → Prop} (hgd : o.guard = none) (s x : Operand) (t : TypeId)
    (ho : o.op = .call { callee := .builtin .append, args := #[s, x], argTypes := #[t, t] }) (hs : a.eval s = .slice none 0 0)
    (e : TypeId) (sz bytes : Nat) (z : Value) (ht : P.underlying t = some (.slice e)) (hi : (P.info? e).map (fun i => (i.zero, i.size, i.bytes)) = some (some z, sz, bytes)) (hzs : z.cells.size = sz) (hsz : 0 < sz) (hby : 0 < bytes)
    (cells : α → List Value) (hne : ∀ y, (cells y).length = sz) (hone : ∀ y, ∀ u ∈ cells y, u.oneCell' = true)
    (v : Value) (l : List α) (hx : a.eval x = v) (hl : SlAt w sz bytes cells v l)
    (h : ∀ v' w', w'.ownsRow w.heap.size e sz v' l.length (l.flatMap cells) → SlAt w' sz bytes cells v' l → Below w.heap.size w w' → (v' = .slice none 0 0 ↔ l = []) → wpList P ops Q rest (a.put o.dst v') w') : wpList P ops Q (o :: rest) a w := by
  obtain ⟨i, hi, hz, hz1, hz2⟩ := info_parts hi
  obtain ⟨ad, cap, rfl, hlb, hcap, hc⟩ := hl
  cases ad with
  | none =>
    have hl0 : l = [] := by
      cases l with
      | nil => rfl
      | cons y r => obtain ⟨b, o, x, hx', _⟩ := hc 0 (by simp); cases hx'
    subst hl0
    rw [hcap rfl] at hx
    refine wpList_append_own_none hgd s x t ho w.heap.size e i sz ht hi _ 0 [] hs (World.ownsRow_nil _ _ _ _) (by simpa using hx) ?_
    exact h _ w (World.ownsRow_nil _ _ _ _) (SlAt.nil _ _ _ _) (Below.refl _ _) (by simp)
  | some ad =>
    refine wpList_append_own w hgd s x t ho w.heap.size e i z sz bytes ht hi hz hz1 hz2 hzs hsz _ 0 [] hs (World.ownsRow_nil _ _ _ _) ad l.length cap (l.flatMap cells) hx (flatMap_len hne l) ?_ ?_ ?_ ?_ (Nat.le_refl _) ?_
    · intro k u hu
      have hk : k < l.length * sz := by
        have := (List.getElem?_eq_some_iff.1 hu).1
        rwa [flatMap_len hne] at this
      obtain ⟨i', x', hx', hi', hm, hkk⟩ := in_flatMap hne hk
      obtain ⟨b, o', y, hy, hly, hcell⟩ := hc i' hi'
      rw [hx'] at hly
      cases hly
      cases hy
      have h1 := hcell (k % sz) hm
      rw [hkk, flatMap_get hne l i' x' hx' _ hm] at hu
      rw [hu] at h1
      rw [hkk]
      rw [addr_add, ← Nat.add_assoc]
      exact h1
    · intro u hu
      obtain ⟨y, _, hy⟩ := List.mem_flatMap.1 hu
      exact hone y u hy
    · have : l.length ≤ l.length * bytes := Nat.le_mul_of_pos_right _ hby
      unfold maxLen; omega
    · simpa using hlb
    · intro v' w' hown hgrow hnil
      simp only [Nat.zero_add, List.nil_append] at hown
      refine h v' w' hown (SlAt.of_owns hne hown hlb) ((Below.refl _ _).grown hgrow (Nat.le_refl _) (by simp [Value.ownBlock])) ?_
      rw [hnil]
      simp

/-- A new row's cells. -/
theorem new_row_cells (w : World) (row : List Value) (e : TypeId) : ∀ j u, row[j]? = some u → (w.alloc (.cells row.toArray e)).cell? ((⟨w.heap.size, 0, none⟩ : Addr).add j) = some u := by
  intro j u hu
  have hadd : (⟨w.heap.size, 0, none⟩ : Addr).add j = ⟨w.heap.size, j, none⟩ := by rw [addr_add, Nat.zero_add]
  rw [hadd, cell_of_row _ w.heap.size j row.toArray e (0, 0) (heap_alloc_new w _)]
  simpa using hu

/-- 'append(s, x)' of one element, s the call's own: the element lies in a new row. -/
theorem wpList_append_one {α : Type} {P : Program} {w : World} {ops : Array Oper} {rest : List Oper} {o : Oper} {a : Act} {Q : Exit → Act → World → Prop} (hgd : o.guard = none) (s x : Operand) (t : TypeId)
    (ho : o.op = .call { callee := .builtin .append, args := #[s, x], argTypes := #[t, t] })
    (base : Nat) (e : TypeId) (sz bytes : Nat) (z : Value) (ht : P.underlying t = some (.slice e)) (hi : (P.info? e).map (fun i => (i.zero, i.size, i.bytes)) = some (some z, sz, bytes)) (hzs : z.cells.size = sz) (hsz : 0 < sz) (hby : 0 < bytes)
    (cells : α → List Value) (hne : ∀ y, (cells y).length = sz) (hone : ∀ y, ∀ u ∈ cells y, u.oneCell' = true)
    (v : Value) (l : List α) (hs : a.eval s = v) (hown : w.ownsRow base e sz v l.length (l.flatMap cells)) (y : α)
    (hx : a.eval x = .slice (some ⟨w.heap.size, 0, none⟩) 1 1) (hlb : (l.length + 1) * bytes ≤ 140737488355328) (hbase : base ≤ w.heap.size)
    (h : ∀ v' w', w'.ownsRow base e sz v' (l.length + 1) ((l ++ [y]).flatMap cells) → (∀ B, B ≤ base → Below B w w') → (∃ g cap, v' = .slice (some ⟨g, 0, none⟩) (l.length + 1) cap) → w.grownBy w' v.ownBlock → wpList P ops Q rest (a.put o.dst v') w') :
    wpList P ops Q (o :: rest) a (w.alloc (.cells (cells y).toArray e)) := by
  obtain ⟨i, hi, hz, hz1, hz2⟩ := info_parts hi
  refine wpList_append_own _ hgd s x t ho base e i z sz bytes ht hi hz hz1 hz2 hzs hsz v l.length (l.flatMap cells) hs (hown.alloc _) ⟨w.heap.size, 0, none⟩ 1 1 (cells y) hx (by rw [hne]; omega) (new_row_cells w (cells y) e) (hone y) ?_ hlb (by simp; omega) ?_
  · have : l.length + 1 ≤ (l.length + 1) * bytes := Nat.le_mul_of_pos_right _ hby
    unfold maxLen; omega
  · intro v' w' hown' hgrow hnil
    have hown'' : w'.ownsRow base e sz v' (l.length + 1) ((l ++ [y]).flatMap cells) := by simpa using hown'
    refine h v' w' hown'' (fun B hB => ?_) ?_ ?_
    · refine ((Below.refl B w).alloc (by omega) (.cells (cells y).toArray e)).grown hgrow (by simp; omega) ?_
      intro k hk
      have := (hown.lt k hk).1
      omega
    · rcases hown''.2 with ⟨_, h0⟩ | ⟨g, cap, cur, hv, _⟩
      · omega
      · exact ⟨g, cap, hv⟩
    · refine ⟨hgrow.os, hgrow.tape, hgrow.output, Nat.le_trans (by simp) hgrow.size, fun k hk hne' => ?_⟩
      rw [hgrow.block k (by simp; omega) hne']
      exact heap_alloc_old w _ hk

/-! ### Integers -/
def intCells (x : Int) : List Value := [.int .i64 x]
theorem intCells_len (x : Int) : (intCells x).length = 1 := rfl
theorem intCells_one (x : Int) : ∀ u ∈ intCells x, u.oneCell' = true := by simp [intCells, Value.oneCell']
def IntsAt (w : World) (v : Value) (xs : List Int) : Prop := SlAt w 1 8 intCells v xs

theorem IntsAt.at {w : World} {a : Option Addr} {len cap : Nat} {xs : List Int} (h : IntsAt w (.slice a len cap) xs) {i : Nat} (hi : i < len) :
    ∃ b o x, a = some ⟨b, o, none⟩ ∧ xs[i]? = some x ∧ w.cell? ⟨b, o + i, none⟩ = some (.int .i64 x) := by
  obtain ⟨b, o, x, ha, hx, hc⟩ := SlAt.at h hi
  exact ⟨b, o, x, ha, hx, by simpa [intCells] using hc 0 (by omega)⟩
theorem IntsAt.opens {w : World} {v : Value} {xs : List Int} (h : IntsAt w v xs) :
    ∃ a len cap, v = .slice a len cap ∧ len ≤ 17592186044416 ∧ Hid (IntsAt w (.slice a len cap) xs) ∧ Hid (xs.length = len) := by
  obtain ⟨a, cap, rfl⟩ := SlAt.val h
  exact ⟨a, _, cap, rfl, by have := SlAt.lt h; omega, h, (rfl : xs.length = xs.length)⟩
theorem IntsAt.lt {w : World} {v : Value} {xs : List Int} (h : IntsAt w v xs) : xs.length ≤ 17592186044416 := by have := SlAt.lt h; omega
theorem IntsAt.mono {w w' : World} {v : Value} {xs : List Int} (h : IntsAt w v xs) (hb : Below w.heap.size w w') : IntsAt w' v xs := SlAt.mono h hb (by omega) intCells_len
end Go.Proofs.Ytophgeegofaioaa
