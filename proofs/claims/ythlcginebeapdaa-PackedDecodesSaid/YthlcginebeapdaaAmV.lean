/- Values and states of a walk that knows no worlds: what temporaries and memory hold, and when an act and a world are as such a state says. -/
import Derived.Test.YthlcginebeapdaaBase
import Derived.Test.YthlcginebeapdaaOrder
namespace Go.Proofs.Ythlcginebeapdaa
open Go.RowKit
set_option linter.unusedSimpArgs false
set_option linter.unusedVariables false

/-- Plain data: a value of one cell, or a slice, told row by row. -/
inductive D where
  | p (x : Value)
  | sl (sz bt : Nat) (rows : List (List D))
  | mp (l : List (Value × Value))
  | mm (l : List (Value × List (Value × Value)))

inductive V where
  | d (x : D)
  | ad (row : List D)
  | ref (r o : Nat)
  | own (r sz n : Nat) (z : Bool)
  | que (r sz o n : Nat)
  | agg (l : List V)
  | tup (l : List V)
  | fn (f : FuncId) (l : List V)
  | mp (r N : Nat) (l : List (Value × Value))
  | mq (r N : Nat) (l : List (Value × List D))
  | ifc (t : TypeId) (v : V)
  | mp2 (x : Bool) (r r' N : Nat) (l l' : List (Value × Value))
  | it (r N : Nat) (s : ByteArray) (pos : Nat)
  | mit (r rm N : Nat) (l : List (Value × Value)) (seen : List Nat)
  | mm (r N : Nat) (l : List (Value × List (Value × Value)))
  | junk

mutual
def V.has (r : Nat) : V → Bool
  | .d _ => false
  | .ad _ => false
  | .ref k _ => k == r
  | .own k _ _ _ => k == r
  | .que k _ _ _ => k == r
  | .agg l => V.hasL r l
  | .tup l => V.hasL r l
  | .fn _ l => V.hasL r l
  | .mp k _ _ => k == r
  | .mq k _ _ => k == r
  | .ifc _ v => V.has r v
  | .mp2 _ k k' _ _ _ => k == r || k' == r
  | .it k _ _ _ => k == r
  | .mit k k' _ _ _ => k == r || k' == r
  | .mm k _ _ => k == r
  | .junk => false
def V.hasL (r : Nat) : List V → Bool
  | [] => false
  | v :: l => V.has r v || V.hasL r l
end

theorem V.hasL_false {r : Nat} : ∀ {l : List V}, V.hasL r l = false ↔ ∀ v ∈ l, V.has r v = false
  | [] => by simp [V.hasL]
  | v :: l => by simp [V.hasL, V.hasL_false (l := l)]

/-- What a map's block holds. -/
def ments (l : List (Value × Value)) : Array MapEntry := (l.zipIdx.map fun x => ({ key := x.1.1, val := x.1.2, born := x.2 } : MapEntry)).toArray
/-- A plain datum, as memory holds it: every cell of it lies in a block that is quiet (q). -/
inductive DRep (w : World) (q : Nat → Prop) : D → Value → Prop
  | p (x : Value) : DRep w q (.p x) x
  | sl (sz bt : Nat) (rows : List (List D)) (a : Option Addr) (cap b o : Nat) (f : Nat → Nat → Value) (hcp : rows.length ≤ cap)
      (ha : rows ≠ [] → a = some ⟨b, o, none⟩ ∧ q b ∧ b < w.heap.size) (hl : rows.length * bt ≤ 140737488355328)
      (hc : ∀ (i j : Nat) (row : List D) (u : D), rows[i]? = some row → row[j]? = some u → w.cell? ⟨b, o + i * sz + j, none⟩ = some (f i j))
      (hr : ∀ (i j : Nat) (row : List D) (u : D), rows[i]? = some row → row[j]? = some u → DRep w q u (f i j)) : DRep w q (.sl sz bt rows) (.slice a rows.length cap)
  | mp (l : List (Value × Value)) (b : Nat) (hq : q b ∧ b < w.heap.size) (hm : w.heap[b]? = some (.map (ments l) l.length)) : DRep w q (.mp l) (.map (some b))
  | mm (l : List (Value × List (Value × Value))) (b : Nat) (bs : List Nat) (hq : q b ∧ b < w.heap.size) (hl : l.length = bs.length) (hqs : ∀ k ∈ bs, q k ∧ k < w.heap.size) (hm : w.heap[b]? = some (.map (ments ((l.map (·.1)).zip (bs.map fun k => .map (some k)))) l.length))
      (hi : ∀ (j : Nat) (x : Value × List (Value × Value)) (k : Nat), l[j]? = some x → bs[j]? = some k → w.heap[k]? = some (.map (ments x.2) x.2.length)) : DRep w q (.mm l) (.map (some b))

inductive VRep (w : World) (q : Nat → Prop) (g : Nat → Nat × Nat) : V → Value → Prop
  | d (x : D) (v : Value) (h : DRep w q x v) : VRep w q g (.d x) v
  | ad (row : List D) (b o : Nat) (f : Nat → Value) (hq : q b ∧ b < w.heap.size)
      (hc : ∀ (j : Nat) (u : D), row[j]? = some u → w.cell? ⟨b, o + j, none⟩ = some (f j))
      (hr : ∀ (j : Nat) (u : D), row[j]? = some u → DRep w q u (f j)) : VRep w q g (.ad row) (.pointer (some ⟨b, o, none⟩))
  | ref (r o : Nat) : VRep w q g (.ref r o) (.pointer (some ⟨(g r).1, o, none⟩))
  | own (r sz n : Nat) (hn : n ≤ (g r).2) (hcap : (g r).2 ≤ maxLen) : VRep w q g (.own r sz n false) (.slice (some ⟨(g r).1, 0, none⟩) n (g r).2)
  | ownNil (r sz : Nat) : VRep w q g (.own r sz 0 true) (.slice none 0 0)
  | que (r sz o n : Nat) (a : Option Addr) (cap : Nat) (hn : n ≤ cap) (hcap : cap ≤ maxLen) (h : cap ≠ 0 → a = some ⟨(g r).1, o * sz, none⟩ ∧ cap + o = (g r).2) : VRep w q g (.que r sz o n) (.slice a n cap)
  | agg (l : List V) (cs : List Value) (hlen : l.length = cs.length) (h : ∀ (j : Nat) (u : V) (c : Value), l[j]? = some u → cs[j]? = some c → VRep w q g u c) : VRep w q g (.agg l) (.agg cs.toArray)
  | tup (l : List V) (cs : List Value) (hlen : l.length = cs.length) (h : ∀ (j : Nat) (u : V) (c : Value), l[j]? = some u → cs[j]? = some c → VRep w q g u c) : VRep w q g (.tup l) (.tuple cs.toArray)
  | fn (f : FuncId) (l : List V) (cs : List Value) (hlen : l.length = cs.length) (h : ∀ (j : Nat) (u : V) (c : Value), l[j]? = some u → cs[j]? = some c → VRep w q g u c) : VRep w q g (.fn f l) (.func (.func f) #[] cs.toArray)
  | mp (r N : Nat) (l : List (Value × Value)) (hN : N ≤ (g r).1) (hm : w.heap[(g r).1]? = some (.map (ments l) l.length)) : VRep w q g (.mp r N l) (.map (some (g r).1))
  | mq (r N : Nat) (l : List (Value × List D)) (vs : List (List Value)) (hN : N ≤ (g r).1) (hl : l.length = vs.length) (hll : ∀ (j : Nat) (x : Value × List D) (y : List Value), l[j]? = some x → vs[j]? = some y → x.2.length = y.length) (hr : ∀ (j : Nat) (x : Value × List D) (y : List Value) (i : Nat) (u : D) (z : Value), l[j]? = some x → vs[j]? = some y → x.2[i]? = some u → y[i]? = some z → DRep w q u z)
      (hm : w.heap[(g r).1]? = some (.map (ments ((l.map (·.1)).zip (vs.map fun y => .agg y.toArray))) l.length)) : VRep w q g (.mq r N l) (.map (some (g r).1))
  | ifc (t : TypeId) (v : V) (x : Value) (h : VRep w q g v x) : VRep w q g (.ifc t v) (.iface t x)
  | mp2 (x : Bool) (r r' N : Nat) (l l' : List (Value × Value)) (hN : N ≤ (g r).1) (hN' : N ≤ (g r').1) (hne : (g r).1 ≠ (g r').1) (hm : w.heap[(g r).1]? = some (.map (ments l) l.length)) (hm' : w.heap[(g r').1]? = some (.map (ments l') l'.length)) : VRep w q g (.mp2 x r r' N l l') (.map (some (g (if x then r' else r)).1))
  | it (r N : Nat) (s : ByteArray) (pos : Nat) (hN : N ≤ (g r).1) (hm : w.heap[(g r).1]? = some (.stringIter s pos)) : VRep w q g (.it r N s pos) (.pointer (some ⟨(g r).1, 0, none⟩))
  | mit (r rm N : Nat) (l : List (Value × Value)) (seen : List Nat) (hN : N ≤ (g r).1) (hm : w.heap[(g r).1]? = some (.mapIter (some (g rm).1) l.length seen.toArray l.length)) (hmm : w.heap[(g rm).1]? = some (.map (ments l) l.length)) : VRep w q g (.mit r rm N l seen) (.pointer (some ⟨(g r).1, 0, none⟩))
  | mm (r N : Nat) (l : List (Value × List (Value × Value))) (bs : List Nat) (hN : N ≤ (g r).1) (hl : l.length = bs.length) (hbs : ∀ k ∈ bs, N ≤ k ∧ k ≠ (g r).1) (hnd : bs.Nodup) (hm : w.heap[(g r).1]? = some (.map (ments ((l.map (·.1)).zip (bs.map fun k => .map (some k)))) l.length))
      (hi : ∀ (j : Nat) (x : Value × List (Value × Value)) (k : Nat), l[j]? = some x → bs[j]? = some k → w.heap[k]? = some (.map (ments x.2) x.2.length)) : VRep w q g (.mm r N l) (.map (some (g r).1))
  | junk (v : Value) : VRep w q g .junk v

/-- Quiet cells are as they were. -/
def Cells (w w' : World) (q : Nat → Prop) : Prop := w.heap.size ≤ w'.heap.size ∧ (∀ (b o : Nat) (u : Value), q b → b < w.heap.size → w.cell? ⟨b, o, none⟩ = some u → w'.cell? ⟨b, o, none⟩ = some u) ∧ ∀ (b : Nat) (ob : Obj), (∀ cs ty fz, ob ≠ .cells cs ty fz) → w.heap[b]? = some ob → w'.heap[b]? = some ob
theorem Cells.map {w w' : World} {q : Nat → Prop} (hw : Cells w w' q) {b : Nat} {es : Array MapEntry} {k : Nat} (h : w.heap[b]? = some (.map es k)) : w'.heap[b]? = some (.map es k) := hw.2.2 _ _ (fun _ _ _ h => by cases h) h
theorem Cells.rfl {w : World} {q : Nat → Prop} : Cells w w q := ⟨Nat.le_refl _, fun _ _ _ _ _ h => h, fun _ _ _ h => h⟩
theorem Below.maps {w w' : World} (hb : Below w.heap.size w w') : ∀ (b : Nat) (ob : Obj), (∀ cs ty fz, ob ≠ .cells cs ty fz) → w.heap[b]? = some ob → w'.heap[b]? = some ob := fun b ob _ h => (hb.block _ (Array.getElem?_eq_some_iff.1 h).1).trans h

theorem DRep.mono {w w' : World} {q q' : Nat → Prop} {x : D} {v : Value} (h : DRep w q x v) (hw : Cells w w' q) (hq : ∀ b, q b → b < w.heap.size → q' b) : DRep w' q' x v := by
  induction h with
  | p x => exact .p x
  | sl sz bt rows a cap b o f hcp ha hl hc hr ih =>
    refine .sl sz bt rows a cap b o f hcp (fun hne => ?_) hl (fun i j row u h1 h2 => ?_) ih
    · obtain ⟨h1, h2, h3⟩ := ha hne
      exact ⟨h1, hq b h2 h3, Nat.lt_of_lt_of_le h3 hw.1⟩
    · have hne : rows ≠ [] := by rintro rfl; simp at h1
      obtain ⟨_, h4, h5⟩ := ha hne
      exact hw.2.1 b _ _ h4 h5 (hc i j row u h1 h2)
  | mp l b hb hm => exact .mp l b ⟨hq b hb.1 hb.2, Nat.lt_of_lt_of_le hb.2 hw.1⟩ (hw.map hm)
  | mm l b bs hb hl hqs hm hi => exact .mm l b bs ⟨hq b hb.1 hb.2, Nat.lt_of_lt_of_le hb.2 hw.1⟩ hl (fun k hk => ⟨hq k (hqs k hk).1 (hqs k hk).2, Nat.lt_of_lt_of_le (hqs k hk).2 hw.1⟩) (hw.map hm) fun j x k h1 h2 => hw.map (hi j x k h1 h2)

theorem VRep.mono {w w' : World} {q q' : Nat → Prop} {g g' : Nat → Nat × Nat} {x : V} {v : Value} (h : VRep w q g x v) (hw : Cells w w' q) (hq : ∀ b, q b → b < w.heap.size → q' b)
    (hg : ∀ r, x.has r = true → g' r = g r) : VRep w' q' g' x v := by
  induction h with
  | d x v h => exact .d x v (h.mono hw hq)
  | ad row b o f hb hc hr => exact .ad row b o f ⟨hq b hb.1 hb.2, Nat.lt_of_lt_of_le hb.2 hw.1⟩ (fun j u hu => hw.2.1 b _ _ hb.1 hb.2 (hc j u hu)) (fun j u hu => (hr j u hu).mono hw hq)
  | ref r o =>
    rw [← hg r (by simp [V.has])]
    exact .ref r o
  | own r sz n hn hcap =>
    have e := hg r (by simp [V.has])
    rw [← e] at hn hcap ⊢
    exact .own r sz n hn hcap
  | ownNil r sz => exact .ownNil r sz
  | que r sz o n a cap hn hcap h =>
    have e := hg r (by simp [V.has])
    rw [← e] at h
    exact .que r sz o n a cap hn hcap h
  | agg l cs hlen h ih =>
    refine .agg l cs hlen fun j u c h1 h2 => ih j u c h1 h2 fun r hr => hg r ?_
    cases hh : V.has r (.agg l) with
    | true => rfl
    | false =>
      simp only [V.has] at hh
      rw [V.hasL_false.1 hh u (List.mem_of_getElem? h1)] at hr
      exact hr
  | tup l cs hlen h ih =>
    refine .tup l cs hlen fun j u c h1 h2 => ih j u c h1 h2 fun r hr => hg r ?_
    cases hh : V.has r (.tup l) with
    | true => rfl
    | false =>
      simp only [V.has] at hh
      rw [V.hasL_false.1 hh u (List.mem_of_getElem? h1)] at hr
      exact hr
  | fn f l cs hlen h ih =>
    refine .fn f l cs hlen fun j u c h1 h2 => ih j u c h1 h2 fun r hr => hg r ?_
    cases hh : V.has r (.fn f l) with
    | true => rfl
    | false =>
      simp only [V.has] at hh
      rw [V.hasL_false.1 hh u (List.mem_of_getElem? h1)] at hr
      exact hr
  | mp r N l hN hm =>
    have e := hg r (by simp [V.has])
    rw [← e] at hN hm ⊢
    exact .mp r N l hN (hw.map hm)
  | mq r N l vs hN hl hll hr hm =>
    have e := hg r (by simp [V.has])
    rw [← e] at hN hm ⊢
    exact .mq r N l vs hN hl hll (fun j x y i u z h1 h2 h3 h4 => (hr j x y i u z h1 h2 h3 h4).mono hw hq) (hw.map hm)
  | ifc t v x h ih => exact .ifc t v x (ih fun r hr => hg r (by simpa [V.has] using hr))
  | mp2 x r r' N l l' hN hN' hne hm hm' =>
    have e := hg r (by simp [V.has])
    have e' := hg r' (by simp [V.has])
    have e2 : (g (if x then r' else r)).1 = (g' (if x then r' else r)).1 := by cases x <;> simp [e, e']
    rw [e2]
    exact .mp2 x r r' N l l' (by rw [e]; exact hN) (by rw [e']; exact hN') (by rw [e, e']; exact hne) (by rw [e]; exact hw.map hm) (by rw [e']; exact hw.map hm')
  | it r N s pos hN hm =>
    have e := hg r (by simp [V.has])
    rw [← e] at hN hm ⊢
    exact .it r N s pos hN (hw.2.2 _ _ (fun _ _ _ h => by cases h) hm)
  | mit r rm N l seen hN hm hmm =>
    have e := hg r (by simp [V.has])
    have e' := hg rm (by simp [V.has])
    rw [← e] at hN hm ⊢
    rw [← e'] at hm hmm
    exact .mit r rm N l seen hN (hw.2.2 _ _ (fun _ _ _ h => by cases h) hm) (hw.map hmm)
  | mm r N l bs hN hl hbs hnd hm hi =>
    have e := hg r (by simp [V.has])
    rw [← e] at hN hbs hm ⊢
    exact .mm r N l bs hN hl hbs hnd (hw.map hm) fun j x k h1 h2 => hw.map (hi j x k h1 h2)
  | junk v => exact .junk v

/-- An object that may still be written: the element type of its block, and what its cells hold (nil: there is no block yet). -/
structure Row where
  ty : TypeId
  cells : List V
  nil : Bool
  sz : Nat

def fnd {α : Type} : List (Nat × α) → Nat → Option α
  | [], _ => none
  | (k, v) :: r, i => if k == i then some v else fnd r i

structure S where
  n : Nat
  T : List (Nat × V)
  H : List (Nat × Row)
  K : List V

/-- What does not change in a walk: the program, the world at its beginning, blocks that others write, values that others keep. -/
structure Cx where
  P : Program
  w0 : World
  out : Nat → Prop
  kx : List Value
  ds : List Deferred

/-- The quiet blocks. -/
def qt (c : Cx) (H : List (Nat × Row)) (g : Nat → Nat × Nat) : Nat → Prop := fun b => ¬ c.out b ∧ ∀ r row, fnd H r = some row → row.nil = false → (g r).1 ≠ b

structure Sim (c : Cx) (g : Nat → Nat × Nat) (s : S) (a : Act) (w : World) : Prop where
  size : a.tmps.size = s.n
  defers : a.defers = c.ds
  tmp : ∀ (i : Nat) (v : V), fnd s.T i = some v → ∃ x, a.tmps[i]? = some x ∧ VRep w (qt c s.H g) g v x
  nul : ∀ (r : Nat) (row : Row), fnd s.H r = some row → row.nil = true → row.cells = []
  obj : ∀ (r : Nat) (row : Row), fnd s.H r = some row → row.nil = false → ∃ arr : Array Value, w.heap[(g r).1]? = some (.cells arr row.ty (0, 0)) ∧ (row.sz ≠ 0 → arr.size = (g r).2 * row.sz) ∧ ∀ (j : Nat) (v : V), row.cells[j]? = some v → ∃ x, arr[j]? = some x ∧ VRep w (qt c s.H g) g v x
  keep : ∀ (j : Nat) (v : V) (x : Value), s.K[j]? = some v → c.kx[j]? = some x → VRep w (qt c s.H g) g v x
  inj : ∀ r r' row row', fnd s.H r = some row → row.nil = false → fnd s.H r' = some row' → row'.nil = false → (g r).1 = (g r').1 → r = r'
  base : ∀ r row, fnd s.H r = some row → row.nil = false → c.w0.heap.size ≤ (g r).1
  low : ∀ b, c.out b → b < c.w0.heap.size
  below : Below c.w0.heap.size c.w0 w

/-- Nothing in a state speaks of object r. -/
def S.clean (s : S) (r : Nat) : Bool := s.T.all (fun x => !x.2.has r) && s.H.all (fun x => x.1 != r && !V.hasL r x.2.cells) && !V.hasL r s.K

theorem fnd_mem {α : Type} : ∀ {l : List (Nat × α)} {i : Nat} {v : α}, fnd l i = some v → (i, v) ∈ l
  | [], _, _, h => by simp [fnd] at h
  | (k, u) :: r, i, v, h => by
    simp only [fnd] at h
    split at h
    · rename_i hk
      simp only [beq_iff_eq] at hk
      simp only [Option.some.injEq] at h
      subst hk h
      exact List.mem_cons_self
    · exact List.mem_cons_of_mem _ (fnd_mem h)

section
variable {c : Cx} {g : Nat → Nat × Nat} {s : S} {a : Act} {w : World}

theorem S.clean_tmp {r : Nat} (h : s.clean r = true) {i : Nat} {v : V} (hv : fnd s.T i = some v) : v.has r = false := by
  simp only [S.clean, Bool.and_eq_true, List.all_eq_true, Bool.not_eq_true'] at h
  exact h.1.1 _ (fnd_mem hv)
theorem S.clean_obj {r : Nat} (h : s.clean r = true) {i : Nat} {row : Row} (hv : fnd s.H i = some row) : i ≠ r ∧ ∀ v ∈ row.cells, v.has r = false := by
  simp only [S.clean, Bool.and_eq_true, List.all_eq_true, Bool.not_eq_true'] at h
  have := h.1.2 _ (fnd_mem hv)
  simp only [Bool.and_eq_true, bne_iff_ne, ne_eq, Bool.not_eq_true'] at this
  exact ⟨this.1, V.hasL_false.1 this.2⟩
theorem S.clean_keep {r : Nat} (h : s.clean r = true) {i : Nat} {v : V} (hv : s.K[i]? = some v) : v.has r = false := by
  simp only [S.clean, Bool.and_eq_true, List.all_eq_true, Bool.not_eq_true'] at h
  exact V.hasL_false.1 h.2 v (List.mem_of_getElem? hv)

/-- What a state says of an operand. -/
def S.ev (s : S) : Operand → Option V
  | .tmp t => fnd s.T t
  | .const v => some (.d (.p v))
  | .global g => some (.d (.p (.pointer (some ⟨g, 0, none⟩))))
  | .func f => some (.fn f [])

theorem Sim.ev (h : Sim c g s a w) {x : Operand} {v : V} (hv : s.ev x = some v) : VRep w (qt c s.H g) g v (a.eval x) := by
  cases x with
  | tmp t =>
    obtain ⟨y, h1, h2⟩ := h.tmp t v hv
    have : a.eval (.tmp t) = y := by simp [Act.eval, Array.getD_eq_getD_getElem?, h1]
    rw [this]; exact h2
  | const v =>
    simp only [S.ev, Option.some.injEq] at hv
    subst hv
    exact .d _ _ (.p _)
  | global g =>
    simp only [S.ev, Option.some.injEq] at hv
    subst hv
    exact .d _ _ (.p _)
  | func f =>
    simp only [S.ev, Option.some.injEq] at hv
    subst hv
    exact .fn f [] [] rfl (by simp)

def S.put (s : S) (d : Option Tmp) (v : V) : S :=
  match d with
  | some d => { s with T := (d, v) :: s.T }
  | none => s

theorem Sim.put (h : Sim c g s a w) (d : Option Tmp) {v : V} {x : Value} (hd : ∀ k, d = some k → k < s.n) (hv : VRep w (qt c s.H g) g v x) : Sim c g (s.put d v) (a.put d x) w := by
  cases d with
  | none => exact h
  | some d =>
    have hd := hd d rfl
    refine ⟨by simpa [Act.put, S.put] using h.size, by simpa [Act.put] using h.defers, ?_, h.nul, h.obj, h.keep, h.inj, h.base, h.low, h.below⟩
    intro i u hu
    simp only [S.put, fnd] at hu
    split at hu
    · rename_i hk
      simp only [beq_iff_eq] at hk
      subst hk
      simp only [Option.some.injEq] at hu
      subst hu
      exact ⟨x, by simp [Act.put, h.size, hd], hv⟩
    · rename_i hk
      obtain ⟨y, h1, h2⟩ := h.tmp i u hu
      refine ⟨y, ?_, h2⟩
      simp only [Act.put]
      rw [Array.getElem?_setIfInBounds_ne (by simpa using hk)]
      exact h1

/-- A value that says less. -/
inductive Wk : V → V → Prop
  | refl (v : V) : Wk v v
  | junk (v : V) : Wk .junk v
  | nil (sz bt : Nat) : Wk (.d (.sl sz bt [])) (.d (.p (.slice none 0 0)))
  | que (r sz n : Nat) : Wk (.que r sz 0 n) (.own r sz n false)
theorem Wk.rep {w : World} {q : Nat → Prop} {g : Nat → Nat × Nat} {v' v : V} {x : Value} (h : Wk v' v) (hv : VRep w q g v x) : VRep w q g v' x := by
  cases h with
  | refl => exact hv
  | junk => exact .junk _
  | nil sz bt =>
    cases hv with
    | d _ _ h =>
      cases h
      exact .d _ _ (.sl sz bt [] none 0 0 0 (fun _ _ => undef) (Nat.le_refl 0) (fun h => absurd rfl h) (by simp) (by simp) (by simp))
  | que r sz n =>
    cases hv with
    | own _ _ _ hn hcap => exact .que r sz 0 n _ _ hn hcap fun _ => ⟨by simp, rfl⟩

/-- A state that says less. -/
structure Less (s' s : S) : Prop where
  n : s'.n = s.n
  T : ∀ (i : Nat) (v : V), fnd s'.T i = some v → ∃ u, fnd s.T i = some u ∧ Wk v u
  H : ∀ (r : Nat) (row' : Row), fnd s'.H r = some row' → ∃ row, fnd s.H r = some row ∧ row'.ty = row.ty ∧ row'.nil = row.nil ∧ row'.sz = row.sz ∧ ∀ (j : Nat) (v : V), row'.cells[j]? = some v → ∃ u, row.cells[j]? = some u ∧ Wk v u
  K : ∀ (j : Nat) (v : V), s'.K[j]? = some v → ∃ u, s.K[j]? = some u ∧ Wk v u

theorem Sim.less (h : Sim c g s a w) {s' : S} (hl : Less s' s) : Sim c g s' a w := by
  have hq : ∀ b, qt c s.H g b → b < w.heap.size → qt c s'.H g b := fun b hb _ => ⟨hb.1, fun r row' hr hn => by obtain ⟨row, h1, _, h2, _, _⟩ := hl.H r row' hr; exact hb.2 r row h1 (h2 ▸ hn)⟩
  have hm : ∀ {v x}, VRep w (qt c s.H g) g v x → VRep w (qt c s'.H g) g v x := fun hv => hv.mono Cells.rfl hq (fun r _ => rfl)
  refine ⟨by rw [hl.n]; exact h.size, h.defers, ?_, ?_, ?_, ?_, ?_, ?_, h.low, h.below⟩
  · intro i v hv
    obtain ⟨u, h1, h2⟩ := hl.T i v hv
    obtain ⟨x, h3, h4⟩ := h.tmp i u h1
    exact ⟨x, h3, h2.rep (hm h4)⟩
  · intro r row' hr hn
    obtain ⟨row, h1, h2, h3, _, h4⟩ := hl.H r row' hr
    have h0 := h.nul r row h1 (h3 ▸ hn)
    cases hc : row'.cells with
    | nil => rfl
    | cons v l =>
      obtain ⟨u, h5, _⟩ := h4 0 v (by simp [hc])
      simp [h0] at h5
  · intro r row' hr hn
    obtain ⟨row, h1, h2, h3, hz, h4⟩ := hl.H r row' hr
    obtain ⟨arr, h5, hzz, h6⟩ := h.obj r row h1 (h3 ▸ hn)
    refine ⟨arr, by rw [h2]; exact h5, by rw [hz]; exact hzz, fun j v hv => ?_⟩
    obtain ⟨u, h7, h8⟩ := h4 j v hv
    obtain ⟨x, h9, h10⟩ := h6 j u h7
    exact ⟨x, h9, h8.rep (hm h10)⟩
  · intro j v x h1 h2
    obtain ⟨u, h3, h4⟩ := hl.K j v h1
    exact h4.rep (hm (h.keep j u x h3 h2))
  · intro r r' row row' h1 n1 h2 n2 h3
    obtain ⟨_, k1, _, m1, _, _⟩ := hl.H r row h1
    obtain ⟨_, k2, _, m2, _, _⟩ := hl.H r' row' h2
    exact h.inj r r' _ _ k1 (m1 ▸ n1) k2 (m2 ▸ n2) h3
  · intro r row h1 n1
    obtain ⟨_, k1, _, m1, _, _⟩ := hl.H r row h1
    exact h.base r _ k1 (m1 ▸ n1)

/-- Another world in which nothing that a state speaks of has changed. -/
theorem Sim.move (h : Sim c g s a w) {w' : World} (hb : Below w.heap.size w w') : Sim c g s a w' := by
  have hw : Cells w w' (qt c s.H g) := ⟨hb.size, fun b o u _ h1 h2 => (hb.cell (p := ⟨b, o, none⟩) h1).trans h2, Below.maps hb⟩
  have hlt : ∀ {b o}, w.heap[b]? = some o → b < w.heap.size := fun h => (Array.getElem?_eq_some_iff.1 h).1
  have hm : ∀ {v x}, VRep w (qt c s.H g) g v x → VRep w' (qt c s.H g) g v x := fun hv => hv.mono hw (fun _ h _ => h) (fun r _ => rfl)
  refine ⟨h.size, h.defers, ?_, h.nul, ?_, ?_, h.inj, h.base, h.low, h.below.trans (hb.mono h.below.size)⟩
  · intro i v hv
    obtain ⟨x, h1, h2⟩ := h.tmp i v hv
    exact ⟨x, h1, hm h2⟩
  · intro r row hr hn
    obtain ⟨arr, h1, hz, h2⟩ := h.obj r row hr hn
    refine ⟨arr, (hb.block _ (hlt h1)).trans h1, hz, fun j v hv => ?_⟩
    obtain ⟨x, h3, h4⟩ := h2 j v hv
    exact ⟨x, h3, hm h4⟩
  · intro j v x h1 h2
    exact hm (h.keep j v x h1 h2)

/-- A new object. -/
theorem Sim.new (h : Sim c g s a w) {r cap : Nat} {row : Row} {cs : Array Value} (hr : s.clean r = true) (hnn : row.nil = false) (hrow : V.hasL r row.cells = false) (hcap : row.sz ≠ 0 → cs.size = cap * row.sz) (hlen : ∀ (j : Nat) (v : V), row.cells[j]? = some v → ∃ x, cs[j]? = some x ∧ VRep w (qt c s.H g) g v x) :
    Sim c (fun k => if k = r then (w.heap.size, cap) else g k) { s with H := (r, row) :: s.H } a (w.alloc (.cells cs row.ty)) ∧
    ∀ v x, v.has r = false → VRep w (qt c s.H g) g v x → VRep (w.alloc (.cells cs row.ty)) (qt c ((r, row) :: s.H) (fun k => if k = r then (w.heap.size, cap) else g k)) (fun k => if k = r then (w.heap.size, cap) else g k) v x := by
  have hb : Below w.heap.size w (w.alloc (.cells cs row.ty)) := (Below.refl _ _).alloc (Nat.le_refl _) _
  have hlt : ∀ {b o}, w.heap[b]? = some o → b < w.heap.size := fun h => (Array.getElem?_eq_some_iff.1 h).1
  have hw : Cells w (w.alloc (.cells cs row.ty)) (qt c s.H g) := ⟨hb.size, fun b o u _ h1 h2 => (hb.cell (p := ⟨b, o, none⟩) h1).trans h2, Below.maps hb⟩
  have hfr : ∀ k row', fnd s.H k = some row' → k ≠ r := fun k row' hk => (S.clean_obj hr hk).1
  have hq : ∀ b, qt c s.H g b → b < w.heap.size → qt c ((r, row) :: s.H) (fun k => if k = r then (w.heap.size, cap) else g k) b := by
    intro b hb hlt
    refine ⟨hb.1, fun k row' hk hn => ?_⟩
    by_cases e : k = r
    · simp only [e, if_true]; omega
    · simp only [e, if_false]
      simp only [fnd, beq_iff_eq, Ne.symm e, if_false] at hk
      exact hb.2 k row' hk hn
  have hm : ∀ v x, v.has r = false → VRep w (qt c s.H g) g v x → VRep (w.alloc (.cells cs row.ty)) (qt c ((r, row) :: s.H) (fun k => if k = r then (w.heap.size, cap) else g k)) (fun k => if k = r then (w.heap.size, cap) else g k) v x := by
    intro v x hv hx
    refine hx.mono hw hq fun k hk => ?_
    have e : k ≠ r := by rintro rfl; rw [hv] at hk; cases hk
    simp [e]
  refine ⟨⟨h.size, h.defers, ?_, ?_, ?_, ?_, ?_, ?_, h.low, h.below.trans (hb.mono h.below.size)⟩, hm⟩
  · intro i v hv
    obtain ⟨x, h1, h2⟩ := h.tmp i v hv
    exact ⟨x, h1, hm v x (S.clean_tmp hr hv) h2⟩
  · intro k row' hk hn
    by_cases e : k = r
    · subst e
      simp only [fnd, beq_self_eq_true, if_true, Option.some.injEq] at hk
      subst hk
      rw [hnn] at hn
      cases hn
    · simp only [fnd, beq_iff_eq, Ne.symm e, if_false] at hk
      exact h.nul k row' hk hn
  · intro k row' hk hn
    by_cases e : k = r
    · subst e
      simp only [fnd, beq_self_eq_true, if_true, Option.some.injEq] at hk
      subst hk
      refine ⟨cs, by simp only [if_true]; exact heap_alloc_new w _, by simpa using hcap, fun j v hv => ?_⟩
      obtain ⟨x, h1, h2⟩ := hlen j v hv
      exact ⟨x, h1, hm v x (V.hasL_false.1 hrow v (List.mem_of_getElem? hv)) h2⟩
    · simp only [fnd, beq_iff_eq, Ne.symm e, if_false] at hk
      obtain ⟨arr, h1, hz, h2⟩ := h.obj k row' hk hn
      refine ⟨arr, by simp only [e, if_false]; exact (hb.block _ (hlt h1)).trans h1, by simpa only [e, if_false] using hz, fun j v hv => ?_⟩
      obtain ⟨x, h3, h4⟩ := h2 j v hv
      exact ⟨x, h3, hm v x ((S.clean_obj hr hk).2 v (List.mem_of_getElem? hv)) h4⟩
  · intro j v x h1 h2
    exact hm v x (S.clean_keep hr h1) (h.keep j v x h1 h2)
  · intro k k' row1 row2 h1 n1 h2 n2 h3
    by_cases e : k = r
    · by_cases e' : k' = r
      · rw [e, e']
      · simp only [fnd, beq_iff_eq, Ne.symm e', if_false] at h2
        obtain ⟨arr, h4, _⟩ := h.obj k' _ h2 n2
        have := hlt h4
        simp only [e, e', if_true, if_false] at h3
        omega
    · simp only [fnd, beq_iff_eq, Ne.symm e, if_false] at h1
      by_cases e' : k' = r
      · obtain ⟨arr, h4, _⟩ := h.obj k _ h1 n1
        have := hlt h4
        simp only [e, e', if_true, if_false] at h3
        omega
      · simp only [fnd, beq_iff_eq, Ne.symm e', if_false] at h2
        simp only [e, e', if_false] at h3
        exact h.inj k k' _ _ h1 n1 h2 n2 h3
  · intro k row' hk hn
    by_cases e : k = r
    · simp only [e, if_true]; exact h.below.size
    · simp only [fnd, beq_iff_eq, Ne.symm e, if_false] at hk
      simp only [e, if_false]
      exact h.base k _ hk hn
end
end Go.Proofs.Ythlcginebeapdaa
