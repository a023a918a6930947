/- Loops that append arcs to a state's variable, and states to a machine's. -/
import Derived.Test.YtnnmdcagbcdfpaaCheck
import Derived.Test.YtnnmdcagbcdfpaaFault
import Derived.Test.YtnnmdcagbcdfpaaBlk
import Derived.Test.YtnnmdcagbcdfpaaOrder
namespace Go.Proofs.Ytnnmdcagbcdfpaa
open Go.RowKit
set_option linter.unusedSimpArgs false
set_option linter.unusedVariables false

theorem core_Check_as (E : Int) (v : Value) (m : Mach) (w : World) (h : MachAt w v m) (hE : machE m = E) : Calls Try.prog 44 #[v] w fun e w' => e = .returned (.int .i64 E) ∧ Below w.heap.size w w' := hE ▸ core_Check v m w h
theorem ref_Fault_as (E : Int) (v : Value) (m : Mach) (w : World) (h : MachAt w v m) (hE : machE m = E) : Calls Try.prog 45 #[v] w fun e w' => e = .returned (.int .i64 E) ∧ Below w.heap.size w w' := hE ▸ ref_Fault v m w h
theorem arcN_app (a b : List St) : arcN (a ++ b) = arcN a + arcN b := by simp [arcN]
theorem arcN_le {l : List St} {n : Nat} (h : arcN l ≤ n) (k : Nat) : arcN (l.take k) ≤ n := by
  have := arcN_app (l.take k) (l.drop k)
  rw [List.take_append_drop] at this
  omega
theorem arcs_le {l : List St} {n k : Nat} {x : St} (h : arcN l ≤ n) (hx : l[k]? = some x) : x.arcs.length ≤ n := by
  have := arcN_le h (k + 1)
  rw [take_snoc hx, arcN_snoc] at this
  omega
/-- A mark that halts the walk at a goal. -/
def Mark (p : Prop) : Prop := p
theorem Mark.intro {p : Prop} (h : Mark p) : p := h
theorem Mark.out {p : Prop} (h : p) : Mark p := h
theorem new_row_cells' (w : World) (row : List Value) (e : TypeId) (n : Nat) (hn : w.heap.size = n) : ∀ j u, row[j]? = some u → (w.alloc (.cells row.toArray e)).cell? ((⟨n, 0, none⟩ : Addr).add j) = some u := by
  subst hn; exact new_row_cells w row e
theorem owns_one (w : World) (base n : Nat) (r : Ar) (hb : base ≤ w.heap.size) (hn : w.heap.size = n) : (w.alloc (.cells #[.int .i64 r.i, .int .i64 r.o, .int .i64 r.w, .int .i64 r.t] 59)).ownsRow base 59 4 (.slice (some ⟨n, 0, none⟩) 1 1) 1 ([r].flatMap arCells) :=
  owns_new arCells_len w base n _ [r] _ rfl hb hn (by simp)
theorem _root_.Go.World.ownsRow.below {w w' : World} {base : Nat} {e : TypeId} {sz : Nat} {v : Value} {n : Nat} {xs : List Value} (h : w.ownsRow base e sz v n xs) (hb : Below w.heap.size w w') : w'.ownsRow base e sz v n xs := h.frame fun k hk => hb.block k (h.lt k hk).2
theorem _root_.Go.World.ownsRow.stored' {w : World} {base : Nat} {e : TypeId} {sz : Nat} {v : Value} {n : Nat} {xs : List Value} (h : w.ownsRow base e sz v n xs) {p : Addr} (hp : p.block < base) (u : Value) : (w.setCell p u).ownsRow base e sz v n xs := h.frame fun k hk => Below.heap_setCell _ _ _ _ (by have := (h.lt k hk).1; omega)

section
variable {α : Type} {P : Program} {w : World} {ops : Array Oper} {rest : List Oper} {o : Oper} {a : Act} {K : Act → World → Prop} {Q : Exit → Act → World → Prop}
theorem wpList_append_n (hgd : o.guard = none) (s x : Operand) (t : TypeId)
    (ho : o.op = .call { callee := .builtin .append, args := #[s, x], argTypes := #[t, t] })
    (base : Nat) (e : TypeId) (sz bytes : Nat) (z : Value) (ht : P.underlying t = some (.slice e)) (hi : (P.info? e).map (fun i => (i.zero, i.size, i.bytes)) = some (some z, sz, bytes)) (hzs : z.cells.size = sz) (hsz : 0 < sz) (hby : 0 < bytes)
    (cells : α → List Value) (hne : ∀ y, (cells y).length = sz)
    (v : Value) (l : List α) (n : Nat) (hn : l.length = n) (hs : a.eval s = v) (hown : w.ownsRow base e sz v n (l.flatMap cells)) (y : α) (hone : ∀ u ∈ cells y, u.oneCell' = true) (ad : Addr) (c : Nat)
    (hx : a.eval x = .slice (some ad) 1 c) (hnews : ∀ j u, (cells y)[j]? = some u → w.cell? (ad.add j) = some u) (hlb : (n + 1) * bytes ≤ 140737488355328) (hbase : base ≤ w.heap.size)
    (h : ∀ v' w', w'.ownsRow base e sz v' (n + 1) ((l ++ [y]).flatMap cells) → (∃ g cap, v' = .slice (some ⟨g, 0, none⟩) (n + 1) cap ∧ (v.ownBlock = some g ∨ g = w.heap.size) ∧ g < w'.heap.size) → w.grownBy w' v.ownBlock → wpList P ops Q rest (a.put o.dst v') w') : wpList P ops Q (o :: rest) a w := by
  subst hn
  exact wpList_append_at hgd s x t ho base e sz bytes z ht hi hzs hsz hby cells hne v l hs hown y hone ad c hx hnews hlb hbase h
theorem step_append_n {E : Prop} (hgd : o.guard = none) (s x : Operand) (t : TypeId)
    (ho : o.op = .call { callee := .builtin .append, args := #[s, x], argTypes := #[t, t] })
    (base : Nat) (e : TypeId) (sz bytes : Nat) (z : Value) (ht : P.underlying t = some (.slice e)) (hi : (P.info? e).map (fun i => (i.zero, i.size, i.bytes)) = some (some z, sz, bytes)) (hzs : z.cells.size = sz) (hsz : 0 < sz) (hby : 0 < bytes)
    (cells : α → List Value) (hne : ∀ y, (cells y).length = sz)
    (v : Value) (l : List α) (n : Nat) (hn : l.length = n) (hs : a.eval s = v) (hown : w.ownsRow base e sz v n (l.flatMap cells)) (y : α) (hone : ∀ u ∈ cells y, u.oneCell' = true) (ad : Addr) (c : Nat)
    (hx : a.eval x = .slice (some ad) 1 c) (hnews : ∀ j u, (cells y)[j]? = some u → w.cell? (ad.add j) = some u) (hlb : (n + 1) * bytes ≤ 140737488355328) (hbase : base ≤ w.heap.size)
    (h : ∀ v' w', w'.ownsRow base e sz v' (n + 1) ((l ++ [y]).flatMap cells) → (∃ g cap, v' = .slice (some ⟨g, 0, none⟩) (n + 1) cap ∧ (v.ownBlock = some g ∨ g = w.heap.size) ∧ g < w'.heap.size) → w.grownBy w' v.ownBlock → K (a.put o.dst v') w') :
    if Region.wanted o (yielded ops a.tmps) = true then Oper.wp P o a w K Q else E := by
  subst hn
  exact step_append_at hgd s x t ho base e sz bytes z ht hi hzs hsz hby cells hne v l hs hown y hone ad c hx hnews hlb hbase h
end
/-- One arc more: T is the state's variable. -/
theorem arc_step {wo wi W w3 : World} {T base : Nat} {f : Value} {av v3 : Value} {l : List Ar} {y : Ar} {n : Nat} (hT : T < base) (hb : base ≤ wi.heap.size)
    (B : Blk wi T #[f, av] 55) (own : wi.ownsRow base 59 4 av n (l.flatMap arCells)) (bel : Below T wo wi) (hW : Below wi.heap.size wi W)
    (own3 : w3.ownsRow base 59 4 v3 (n + 1) ((l ++ [y]).flatMap arCells)) (gr : W.grownBy w3 av.ownBlock) :
    Blk (w3.setCell ⟨T, 1, none⟩ v3) T #[f, v3] 55 ∧ (w3.setCell ⟨T, 1, none⟩ v3).ownsRow base 59 4 v3 (n + 1) ((l ++ [y]).flatMap arCells) ∧
    Below T wo (w3.setCell ⟨T, 1, none⟩ v3) ∧ base ≤ (w3.setCell ⟨T, 1, none⟩ v3).heap.size ∧ Blk w3 T #[f, av] 55 := by
  have hne : ∀ k, k < base → some k ≠ av.ownBlock := by
    intro k hk e
    have := (own.lt k e.symm).1
    omega
  have B3 : Blk w3 T #[f, av] 55 := (B.to hW).grown gr (hne T hT)
  have hs1 := hW.size
  have hs2 := gr.size
  refine ⟨B3.set 1 v3, ?_, ?_, by simp [World.setCell]; omega, B3⟩
  · exact own3.stored' hT v3
  · refine Below.setCell (bel.trans ⟨?_, ?_, ?_, by omega, fun k hk => ?_⟩) (Nat.le_refl _) _
    · rw [gr.os]; exact hW.os
    · rw [gr.tape]; exact hW.tape
    · rw [gr.output]; exact hW.output
    · exact (gr.block k (by omega) (hne k (by omega))).trans (hW.block k (by omega))
/-- Cells of the state's variable and of the arc's, as a region reads them. -/
def ArcS (T X : Nat) (av a b c d : Value) (w : World) : Prop := w.cell? ⟨T, 1, none⟩ = some av ∧ w.cell? ⟨X, 0, none⟩ = some a ∧ w.cell? ⟨X, 1, none⟩ = some b ∧ w.cell? ⟨X, 2, none⟩ = some c ∧ w.cell? ⟨X, 3, none⟩ = some d ∧ w.frozen? ⟨T, 1, none⟩ = false
theorem ArcS.mk {w : World} {T X : Nat} {f av a b c d : Value} (hT : Blk w T #[f, av] 55) (hX : Blk w X #[a, b, c, d] 59) :
    w.cell? ⟨T, 1, none⟩ = some av ∧ w.cell? ⟨X, 0, none⟩ = some a ∧ w.cell? ⟨X, 1, none⟩ = some b ∧ w.cell? ⟨X, 2, none⟩ = some c ∧ w.cell? ⟨X, 3, none⟩ = some d ∧ w.frozen? ⟨T, 1, none⟩ = false :=
  ⟨hT.cell 1 rfl, hX.cell 0 rfl, hX.cell 1 rfl, hX.cell 2 rfl, hX.cell 3 rfl, hT.free 1⟩
/-- Each arc of a machine turned. -/
def turnOut (f : Ar → Ar) (m : Mach) : Mach := if machE m = 0 then ⟨m.start, m.states.map fun s => ⟨s.fin, s.arcs.map f⟩⟩ else ⟨0, []⟩
def turnInv (a : Ar) : Ar := ⟨a.o, a.i, a.w, a.t⟩
def turnRd (a : Ar) : Ar := ⟨a.i, a.i, a.w, a.t⟩
def turnWr (a : Ar) : Ar := ⟨a.o, a.o, a.w, a.t⟩
end Go.Proofs.Ytnnmdcagbcdfpaa
