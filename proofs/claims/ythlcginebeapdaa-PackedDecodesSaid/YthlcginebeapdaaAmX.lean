/- Drawn regions in which a slice of the call's own grows among reads that do not look at it. -/
import Derived.Test.YthlcginebeapdaaAmGs
namespace Go.Proofs.Ythlcginebeapdaa
open Go.RowKit
set_option linter.unusedSimpArgs false
set_option linter.unusedVariables false

/-- Blocks are as they were but those of e. -/
def BX (e : Nat → Prop) (N : Nat) (W w : World) : Prop := N ≤ w.heap.size ∧ ∀ k, k < N → ¬ e k → w.heap[k]? = W.heap[k]?
structure Ex (c : Cx) (g : Nat → Nat × Nat) (s : S) (r : Nat) (e : Nat → Prop) (w : World) : Prop where
  obj : ∀ k row, k ≠ r → fnd s.H k = some row → row.nil = false → ¬ e (g k).1
  quiet : ∀ k, qt c s.H g k → k < w.heap.size → ¬ e k
  own : ∀ row, fnd s.H r = some row → row.nil = false → e (g r).1

section
variable {c : Cx} {s : S} {o : Oper} {Q : Exit → S → Prop} {g : Nat → Nat × Nat} {a : Act} {w : World} {L : List Oper} {need : Nat → Bool} {l : List (Nat × Bool)} {i r : Nat} {e : Nat → Prop}

theorem BX.cell {N : Nat} {W w : World} {b k : Nat} {v : Value} (h : BX e N W w) (hb : b < N) (he : ¬ e b) (hv : W.cell? ⟨b, k, none⟩ = some v) : w.cell? ⟨b, k, none⟩ = some v := (World.cell?_of_block (w := W) (a := ⟨b, k, none⟩) (h.2 b hb he)).trans hv

/-- A read that does not look at object r. -/
def RX (c : Cx) (o : Oper) (s : S) (r : Nat) (v : V) : Prop := ∀ e g a w, Sim c g s a w → Ex c g s r e w → ∃ x, VRep w (qt c s.H g) g v x ∧ ∀ w', BX e w.heap.size w w' → (execOp a.eval o).run c.P w' = .ok (.value x) w'
theorem RP.rx {v : V} (h : RP c o s v) : RX c o s r v := fun e g a w hs _ => by
  obtain ⟨x, h1, h2⟩ := h g a w hs
  exact ⟨x, h1, fun w' _ => h2 w'⟩
theorem rx_load_ref {t : TypeId} {d : TypeDesc} {x : Operand} {r0 k : Nat} {row : Row} {v : V} (hu : c.P.underlying t = some d) (hd : isAggD d = false) (ho : o.op = .load t x) (hx : s.ev x = some (.ref r0 k)) (hr : fnd s.H r0 = some row) (hn : row.nil = false) (hv : row.cells[k]? = some v) (hne : r0 ≠ r) : RX c o s r v := fun e g a w hs he => by
  have h := hs.ev hx
  obtain ⟨arr, h1, _, h2⟩ := hs.obj r0 row hr hn
  obtain ⟨y, h3, h4⟩ := h2 k v hv
  refine ⟨y, h4, fun w' hb => ?_⟩
  have hlt : (g r0).1 < w.heap.size := (Array.getElem?_eq_some_iff.1 h1).1
  have hcell : w'.cell? ⟨(g r0).1, k, none⟩ = some y := hb.cell hlt (he.obj r0 row hne hr hn) ((cell_of_row w _ _ _ _ _ h1).trans h3)
  generalize hy : a.eval x = z at h
  cases h
  simp [execOp, ho, hy, Instr.loadAt, Instr.sureAddr, loadVar, run_isAgg hu, hd, hcell]
theorem rx_load_ad {t : TypeId} {d : TypeDesc} {x : Operand} {row : List D} {v : D} (hu : c.P.underlying t = some d) (hd : isAggD d = false) (ho : o.op = .load t x) (hx : s.ev x = some (.ad row)) (hv : row[0]? = some v) : RX c o s r (.d v) := fun e g a w hs he => by
  have h := hs.ev hx
  generalize hy : a.eval x = z at h
  cases h with
  | ad _ b o' f hq hc hr =>
    refine ⟨f 0, .d _ _ (hr 0 v hv), fun w' hb => ?_⟩
    have hcell : w'.cell? ⟨b, o', none⟩ = some (f 0) := hb.cell hq.2 (he.quiet b hq.1 hq.2) (hc 0 v hv)
    simp [execOp, ho, hy, Instr.loadAt, Instr.sureAddr, loadVar, run_isAgg hu, hd, hcell]
theorem rx_load_fam {β : Type} {F : Fam β} {t : TypeId} {d : TypeDesc} {x : Operand} {rb k p m base : Nat} {row : Row} {L : List β} {x0 : β} (hu : c.P.underlying t = some d) (hd : isAggD d = false) (ho : o.op = .load t x) (hx : s.ev x = some (.ref rb k)) (hr : fnd s.H rb = some row) (hn : row.nil = false) (hc : row.cells = F.cells base L) (hm : ∀ x, (F.pre x).length = m) (hk : k = p * (m + 1) + m) (hp : L[p]? = some x0) (hne : rb ≠ r) : RX c o s r (F.ownV (base + p) x0) :=
  rx_load_ref hu hd ho hx hr hn (by rw [hc, hk]; exact Fam.cells_own hm L base p x0 hp) hne
theorem rx_loads_ref {t : TypeId} {d : TypeDesc} {x : Operand} {r0 k sz bt : Nat} {z : Value} {row : Row} {l : List V} (hu : c.P.underlying t = some d) (hd : isAggD d = true) (hi : Inf c.P t sz bt z) (ho : o.op = .load t x) (hx : s.ev x = some (.ref r0 k)) (hr : fnd s.H r0 = some row) (hn : row.nil = false)
    (hl : (row.cells.drop k).take sz = l) (hlen : l.length = sz) (hne : r0 ≠ r) : RX c o s r (.agg l) := fun e g a w hs he => by
  have h := hs.ev hx
  obtain ⟨arr, h1, _, h2⟩ := hs.obj r0 row hr hn
  have hat : ∀ (j : Nat) (u : V), l[j]? = some u → row.cells[k + j]? = some u := by
    intro j u hu
    rw [← hl, List.getElem?_take] at hu
    split at hu
    · simpa using hu
    · cases hu
  have hlt : (g r0).1 < w.heap.size := (Array.getElem?_eq_some_iff.1 h1).1
  refine ⟨.agg ((List.range sz).map fun j => arr.getD (k + j) undef).toArray, .agg l _ (by simp [hlen]) ?_, fun w' hb => ?_⟩
  · intro j u y hj hy
    obtain ⟨y', h3, h4⟩ := h2 _ u (hat j u hj)
    have hjs : j < sz := by rw [← hlen]; exact (List.getElem?_eq_some_iff.1 hj).1
    simp only [List.getElem?_map, List.getElem?_range hjs, Option.map_some, Option.some.injEq] at hy
    rw [Array.getD_eq_getD_getElem?, h3] at hy
    simp only [Option.getD_some] at hy
    subst hy
    exact h4
  · have hrun := run_loadVar_agg (P := c.P) (w := w') (b := (g r0).1) (o := k) (cs := (List.range sz).map fun j => arr.getD (k + j) undef) hu hd hi (by simp) (by
      intro j v hj
      have hjs : j < sz := by simpa using (List.getElem?_eq_some_iff.1 hj).1
      simp only [List.getElem?_map, List.getElem?_range hjs, Option.map_some, Option.some.injEq] at hj
      obtain ⟨y', h3, h4⟩ := h2 _ l[j] (hat j l[j] (List.getElem?_eq_getElem (by omega)))
      rw [Array.getD_eq_getD_getElem?, h3] at hj
      simp only [Option.getD_some] at hj
      subst hj
      exact hb.cell hlt (he.obj r0 row hne hr hn) ((cell_of_row w _ _ _ _ _ h1).trans h3))
    generalize hy : a.eval x = y at h
    cases h
    simp [execOp, ho, hy, Instr.loadAt, Instr.sureAddr, hrun]

/-- First come the reads that do not look at r. -/
def AE1 (c : Cx) (ops : Array Oper) (Q : Exit → S → Prop) (need : Nat → Bool) (r : Nat) (l : List (Nat × Bool)) (s : S) : Prop := ∀ e g a w, Sim c g s a w → Ex c g s r e w → (∀ k, e k → k < w.heap.size) → ASeq c.P ops (QQ c Q) (BX e w.heap.size w) need l a w
/-- Then new memory, and r grows. -/
def AE2 (c : Cx) (ops : Array Oper) (Q : Exit → S → Prop) (need : Nat → Bool) (r : Nat) (l : List (Nat × Bool)) (s : S) : Prop := ∀ W e g a w, Sim c g s a w → Ex c g s r e w → BX e W.heap.size W w → (∀ k, e k → k < W.heap.size) → ASeq c.P ops (QQ c Q) (BX e W.heap.size W) need l a w

theorem Ex.put {d : Option Tmp} {v : V} (h : Ex c g s r e w) : Ex c g (s.put d v) r e w := by
  cases d with
  | none => exact h
  | some d => exact ⟨h.obj, h.quiet, h.own⟩
theorem BX.refl (w : World) : BX e w.heap.size w w := ⟨Nat.le_refl _, fun _ _ _ => rfl⟩
theorem AW.drawX {id : Nat} {l : List Oper} (r : Nat) (order : List (Nat × Bool)) (need : Nat → Bool) (N : Nat) (hm : c.P.follows .mixedOrders = true) (hsel : Region.noSelect l.toArray = true) (hlen : order.length = l.length)
    (hok : okS .any l.toArray need N order (Array.replicate l.length false) = true) (h : AE1 c l.toArray Q need r order s) : AW c (.region id l.toArray true) Q s := by
  intro g a w hs
  refine wp_region_any hm ?_
  have hs' : Sim c g s a w.drew := hs.move (Below.drew (Below.refl _ _))
  have hex : Ex c g s r (fun k => ∃ row, fnd s.H r = some row ∧ row.nil = false ∧ (g r).1 = k) w.drew := by
    refine ⟨fun k row hk h1 h2 h3 => ?_, fun k hk _ h3 => ?_, fun row h1 h2 => ⟨row, h1, h2, rfl⟩⟩
    · obtain ⟨row2, h4, h5, h6⟩ := h3
      exact hk (hs'.inj k r row row2 h1 h2 h4 h5 h6.symm)
    · obtain ⟨row2, h4, h5, h6⟩ := h3
      exact hk.2 r row2 h4 h5 h6
  have hlt : ∀ k, (∃ row, fnd s.H r = some row ∧ row.nil = false ∧ (g r).1 = k) → k < w.drew.heap.size := by
    rintro k ⟨row, h1, h2, rfl⟩
    obtain ⟨arr, h3, _⟩ := hs'.obj r row h1 h2
    exact (Array.getElem?_eq_some_iff.1 h3).1
  have := any_of_anyN _ _ _ _ (anyN_of_ASeq (P := c.P) (Q := QQ c Q) (T := BX _ w.drew.heap.size w.drew) (need := need) (md := .any) hsel order (Array.replicate l.length false) a w.drew (by
    intro j oj _ hl
    rw [Array.getD_eq_getD_getElem?, Array.getElem?_replicate] at hl
    split at hl <;> simp at hl) hok (h _ g a _ hs' hex hlt))
  rw [hlen] at this
  simpa using this
theorem AE1.rx {v : V} (hi : L[i]? = some o) (hg : o.guard = none) (hd : dok s o = true) (hp : noP Q) (h : RX c o s r v) (hN : AE1 c L.toArray Q need r l (s.put o.dst v)) : AE1 c L.toArray Q need r ((i, true) :: l) s := fun e g a w hs he hl => by
  obtain ⟨x, h1, h2⟩ := h e g a w hs he
  exact ⟨o, x, by simpa using hi, .inl ⟨by simp [Region.wanted, hg], h2⟩, BX.refl _, QQ_noP hp _ _, hN e g _ w (hs.put o.dst (dok_spec hd) h1) he.put hl⟩
theorem AE1.rp {v : V} (hi : L[i]? = some o) (hg : o.guard = none) (hd : dok s o = true) (hp : noP Q) (h : RP c o s v) (hN : AE1 c L.toArray Q need r l (s.put o.dst v)) : AE1 c L.toArray Q need r ((i, true) :: l) s := AE1.rx hi hg hd hp h.rx hN
theorem AE1.go (h : AE2 c L.toArray Q need r l s) : AE1 c L.toArray Q need r l s := fun e g a w hs he hl => h w e g a w hs he (BX.refl _) hl
theorem AE2.sm {r' : Nat} {row : Row} {v : V} (hi : L[i]? = some o) (hg : o.guard = none) (h : StepG c o s r' (fun s' => s' = s.newObj r' row o.dst v)) (hne : r' ≠ r) (hN : AE2 c L.toArray Q need r l (s.newObj r' row o.dst v)) : AE2 c L.toArray Q need r ((i, false) :: l) s := fun W e g a w hs he hb hl =>
  wpOp_of (by simpa using hi) hg (h g a w hs _ _ fun g' s' a' w' h1 h2 h3 h4 h5 => by
    subst h1
    have hsz := hb.1
    have hbx : BX e W.heap.size W w' := ⟨Nat.le_trans hb.1 h3.size, fun k hk hn => (h3.block k (by omega)).trans (hb.2 k hk hn)⟩
    refine ⟨fun _ => hbx, hN W e g' a' w' h2 (Ex.put (s := { s with H := (r', row) :: s.H }) ⟨fun k row' hk h6 h7 => ?_, fun k hk hkl => ?_, fun row' h6 h7 => ?_⟩) hbx hl⟩
    · simp only [fnd] at h6
      by_cases hkr : r' = k
      · subst hkr
        intro h8
        have := hl _ h8
        omega
      · rw [if_neg (by simpa using hkr)] at h6
        rw [h4 k (Ne.symm hkr)]
        exact he.obj k row' hk h6 h7
    · intro h8
      have h9 := hl k h8
      refine he.quiet k ⟨hk.1, fun r2 row2 h10 h11 h12 => ?_⟩ (by omega) h8
      by_cases hr2 : r2 = r'
      · subst hr2
        -- an old object of that name: it would lie in the new one's place
        have : fnd s.H r2 = none ∨ ∃ x, fnd s.H r2 = some x := by cases fnd s.H r2 <;> simp
        have hne2 : e (g r2).1 := by rw [h12]; exact h8
        exact he.obj r2 row2 hne h10 h11 hne2
      · refine hk.2 r2 row2 ?_ h11 (by rw [h4 r2 hr2]; exact h12)
        have e1 : (S.newObj s r' row o.dst v).H = (r', row) :: s.H := by cases o.dst <;> rfl
        simp only [fnd]
        rw [if_neg (by simpa using Ne.symm hr2)]
        exact h10
    · simp only [fnd] at h6
      rw [if_neg (by simpa using hne)] at h6
      rw [h4 r (Ne.symm hne)]
      exact he.own row' h6 h7)
theorem AE2.st {X : S} (hi : L[i]? = some o) (hg : o.guard = none) (h : StepX c o s r (fun s' => s' = X)) (hN : AD3 c L.toArray Q need l X) : AE2 c L.toArray Q need r ((i, false) :: l) s := fun W e g a w hs he hb hl =>
  wpOp_of (by simpa using hi) hg (h g a w hs _ _ fun g' s' a' w' h1 h2 h3 => by
    subst h1
    have hsz := hb.1
    refine ⟨fun _ => ⟨Nat.le_trans hb.1 h3.1, fun k hk hn => (h3.2 k (by omega) fun row h4 h5 h6 => ?_).trans (hb.2 k hk hn)⟩, hN _ g' a' w' h2⟩
    subst h6
    exact hn (he.own row h4 h5))
end
end Go.Proofs.Ythlcginebeapdaa
