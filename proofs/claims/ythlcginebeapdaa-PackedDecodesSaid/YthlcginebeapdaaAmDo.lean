/- Regions that draw their order: after a call, reads of the call's own old objects may still come first. -/
import Derived.Test.YthlcginebeapdaaAmH
namespace Go.Proofs.Ythlcginebeapdaa
open Go.RowKit
set_option linter.unusedSimpArgs false
set_option linter.unusedVariables false

section
variable {c : Cx} {s : S} {o : Oper}
/-- One operation that changes nothing, nor where the objects lie. -/
def StepK (c : Cx) (o : Oper) (s : S) (N : S → Prop) : Prop := ∀ g a w, Sim c g s a w → ∀ (K : Act → World → Prop) (Q : Exit → Act → World → Prop),
  (∀ s' a' w', N s' → Sim c g s' a' w' → Below w.heap.size w w' → K a' w') → o.wp c.P a w K Q
theorem RD.stepK {v : V} {N : S → Prop} (h : RD c o s v) (hd : dok s o = true) (hN : N (s.put o.dst v)) : StepK c o s N := by
  intro g a w hs K Q hK
  obtain ⟨x, h1, h2⟩ := h g a w hs
  unfold Oper.wp
  rw [h2 w (Below.refl _ _)]
  exact hK _ _ _ hN (hs.put o.dst (dok_spec hd) h1) (Below.refl _ _)
theorem sk_call {fx : Operand} {xs : Array Operand} {ts : Array TypeId} {f : FuncId} {fn : Func} {code : Code} {n : Nat} {rs : List ResultVar} {args : List V} {post : V → Prop} (hfn : Fn c.P f args post) (hf : Is c.P f fn code n rs) (ho : o.op = .call { callee := .value fx, args := xs, argTypes := ts })
    (hfx : s.ev fx = some (.fn f [])) (hargs : xs.toList.map s.ev = args.map some) (hd : dok s o = true) : StepK c o s (fun s' => ∃ v, post v ∧ v.pure ∧ s' = s.put o.dst v) := by
  intro g a w hs K Q hK
  obtain ⟨cs, hfv, hcl, _⟩ := fn_eval hs hfx
  obtain rfl : cs = [] := by cases cs with | nil => rfl | cons => simp at hcl
  obtain ⟨hal, har⟩ := args_eval hs hargs
  have hx : VReps w (fun b => ¬ ¬ qt c s.H g b) g args (xs.toList.map a.eval) :=
    ⟨hal, fun j u y hu hy => (har j u y hu hy).mono Cells.rfl (fun b hb _ => not_not_intro hb) (fun r _ => rfl)⟩
  unfold Oper.wp
  rw [exec_call (caps := []) hf ho hfv]
  simp only [Oper.upon, List.append_nil]
  refine (hfn w (fun b => ¬ qt c s.H g b) g _ ?_ hx).mono ?_
  · intro b hb
    rcases Classical.em (c.out b) with h | h
    · exact Nat.lt_of_lt_of_le (hs.low b h) hs.below.size
    · rcases Classical.em (∃ r row, fnd s.H r = some row ∧ row.nil = false ∧ (g r).1 = b) with ⟨r, row, h1, h2, rfl⟩ | h'
      · obtain ⟨arr, h3, _⟩ := hs.obj r row h1 h2
        exact (Array.getElem?_eq_some_iff.1 h3).1
      · exact absurd ⟨h, fun r row h1 h2 h3 => h' ⟨r, row, h1, h2, h3⟩⟩ hb
  · rintro e w' ⟨v, x, rfl, h1, h2, h3, h4⟩
    refine hK _ _ _ ⟨v, h1, h2, rfl⟩ ((hs.move h4).put o.dst (dok_spec hd) ?_) h4
    exact h3.mono Cells.rfl (fun b hb _ => Classical.not_not.1 hb) (fun r _ => rfl)
/-- A read of object r, if that is old. -/
def RO (c : Cx) (o : Oper) (s : S) (r : Nat) (v : V) : Prop := ∀ W g a w, Sim c g s a w → Below W.heap.size W w → (g r).1 < W.heap.size → ∃ x, VRep w (qt c s.H g) g v x ∧ ∀ w', Below W.heap.size W w' → (execOp a.eval o).run c.P w' = .ok (.value x) w'
theorem ro_load {t : TypeId} {d : TypeDesc} {x : Operand} {r k : Nat} {row : Row} {v : V} (hu : c.P.underlying t = some d) (hd : isAggD d = false) (ho : o.op = .load t x) (hx : s.ev x = some (.ref r k)) (hr : fnd s.H r = some row) (hn : row.nil = false) (hv : row.cells[k]? = some v) : RO c o s r v := fun W g a w hs hB hg => by
  have h := hs.ev hx
  obtain ⟨arr, h1, _, h2⟩ := hs.obj r row hr hn
  obtain ⟨y, h3, h4⟩ := h2 k v hv
  refine ⟨y, h4, fun w' hb => ?_⟩
  have hcell : w'.cell? ⟨(g r).1, k, none⟩ = some y := (hb.cell (p := ⟨(g r).1, k, none⟩) hg).trans ((hB.cell (p := ⟨(g r).1, k, none⟩) hg).symm.trans ((cell_of_row w _ _ _ _ _ h1).trans h3))
  generalize hy : a.eval x = z at h
  cases h
  simp [execOp, ho, hy, Instr.loadAt, Instr.sureAddr, loadVar, run_isAgg hu, hd, hcell]

variable {Q : Exit → S → Prop} {L : List Oper} {ops : Array Oper} {need : Nat → Bool} {l : List (Nat × Bool)} {i : Nat} {O : List Nat}
def AO (O : List Nat) (c : Cx) (ops : Array Oper) (Q : Exit → S → Prop) (need : Nat → Bool) (l : List (Nat × Bool)) (s : S) : Prop := ∀ W g a w, Sim c g s a w → Below W.heap.size W w → (∀ r ∈ O, (g r).1 < W.heap.size) → ASeq c.P ops (QQ c Q) (Below W.heap.size W) need l a w
theorem AD1.goo (O : List Nat) (hO : O.all (fun r => match fnd s.H r with | some row => !row.nil | none => false) = true) (h : AO O c L.toArray Q need l s) : AD1 c L.toArray Q need l s := fun g a w hs =>
  h w g a w hs (Below.refl _ _) fun r hr => by
    have h1 := List.all_eq_true.1 hO r hr
    cases h2 : fnd s.H r with
    | none => rw [h2] at h1; cases h1
    | some row =>
      rw [h2] at h1
      obtain ⟨arr, h3, _⟩ := hs.obj r row h2 (by simpa using h1)
      exact (Array.getElem?_eq_some_iff.1 h3).1
theorem AO.stepK (hi : L[i]? = some o) (hg : o.guard = none) (h : StepK c o s (AO O c L.toArray Q need l)) : AO O c L.toArray Q need ((i, false) :: l) s := fun W g a w hs hb hO =>
  wpOp_of (by simpa using hi) hg (h g a w hs _ _ fun s' a' w' h1 h2 h3 => ⟨fun _ => hb.trans (h3.mono hb.size), h1 W g a' w' h2 (hb.trans (h3.mono hb.size)) hO⟩)
theorem AO.stepKy {j : Nat} {b : Bool} (hi : L[i]? = some o) (hg : o.guard = some (j, b)) (hy : yld L.toArray s j = some b) (h : StepK c o s (AO O c L.toArray Q need l)) : AO O c L.toArray Q need ((i, false) :: l) s := fun W g a w hs hb hO =>
  wpOp_ofy (by simpa using hi) (by simp [Region.wanted, hg, yld_spec hy hs]) (h g a w hs _ _ fun s' a' w' h1 h2 h3 => ⟨fun _ => hb.trans (h3.mono hb.size), h1 W g a' w' h2 (hb.trans (h3.mono hb.size)) hO⟩)
theorem AO.call {post : V → Prop} (hi : L[i]? = some o) (hg : o.guard = none) (h : StepK c o s (fun s' => ∃ v, post v ∧ v.pure ∧ s' = s.put o.dst v)) (hN : ∀ v, post v → v.pure → AO O c L.toArray Q need l (s.put o.dst v)) : AO O c L.toArray Q need ((i, false) :: l) s :=
  AO.stepK hi hg fun g a w hs K Q' hK => h g a w hs K Q' fun s' a' w' ⟨v, h1, h2, e⟩ h3 h4 => hK s' a' w' (by subst e; exact hN v h1 h2) h3 h4
theorem AO.cally {post : V → Prop} {j : Nat} {b : Bool} (hi : L[i]? = some o) (hg : o.guard = some (j, b)) (hy : yld L.toArray s j = some b) (h : StepK c o s (fun s' => ∃ v, post v ∧ v.pure ∧ s' = s.put o.dst v)) (hN : ∀ v, post v → v.pure → AO O c L.toArray Q need l (s.put o.dst v)) : AO O c L.toArray Q need ((i, false) :: l) s :=
  AO.stepKy hi hg hy fun g a w hs K Q' hK => h g a w hs K Q' fun s' a' w' ⟨v, h1, h2, e⟩ h3 h4 => hK s' a' w' (by subst e; exact hN v h1 h2) h3 h4
theorem AO.rd1 {v : V} (hi : L[i]? = some o) (hg : o.guard = none) (hd : dok s o = true) (h : RD c o s v) (hN : AO O c L.toArray Q need l (s.put o.dst v)) : AO O c L.toArray Q need ((i, false) :: l) s := AO.stepK hi hg (h.stepK hd hN)
theorem AO.rp1 {v : V} (hi : L[i]? = some o) (hg : o.guard = none) (hd : dok s o = true) (h : RP c o s v) (hN : AO O c L.toArray Q need l (s.put o.dst v)) : AO O c L.toArray Q need ((i, false) :: l) s := AO.rd1 hi hg hd h.rd hN
theorem AO.rd1y {v : V} {j : Nat} {b : Bool} (hi : L[i]? = some o) (hg : o.guard = some (j, b)) (hy : yld L.toArray s j = some b) (hd : dok s o = true) (h : RD c o s v) (hN : AO O c L.toArray Q need l (s.put o.dst v)) : AO O c L.toArray Q need ((i, false) :: l) s := AO.stepKy hi hg hy (h.stepK hd hN)
theorem AO.rp1y {v : V} {j : Nat} {b : Bool} (hi : L[i]? = some o) (hg : o.guard = some (j, b)) (hy : yld L.toArray s j = some b) (hd : dok s o = true) (h : RP c o s v) (hN : AO O c L.toArray Q need l (s.put o.dst v)) : AO O c L.toArray Q need ((i, false) :: l) s := AO.rd1y hi hg hy hd h.rd hN
theorem AO.rp {v : V} (hi : L[i]? = some o) (hg : o.guard = none) (hd : dok s o = true) (hp : noP Q) (h : RP c o s v) (hN : AO O c L.toArray Q need l (s.put o.dst v)) : AO O c L.toArray Q need ((i, true) :: l) s := fun W g a w hs hb hO => by
  obtain ⟨x, h1, h2⟩ := h g a w hs
  exact ⟨o, x, by simpa using hi, .inl ⟨by simp [Region.wanted, hg], fun w' _ => h2 w'⟩, hb, QQ_noP hp _ _, hN W g _ w (hs.put o.dst (dok_spec hd) h1) hb hO⟩
theorem AO.rpy {v : V} {j : Nat} {b : Bool} (hi : L[i]? = some o) (hg : o.guard = some (j, b)) (hy : yld L.toArray s j = some b) (hd : dok s o = true) (hp : noP Q) (h : RP c o s v) (hN : AO O c L.toArray Q need l (s.put o.dst v)) : AO O c L.toArray Q need ((i, true) :: l) s := fun W g a w hs hb hO => by
  obtain ⟨x, h1, h2⟩ := h g a w hs
  exact ⟨o, x, by simpa using hi, .inl ⟨by simp [Region.wanted, hg, yld_spec hy hs], fun w' _ => h2 w'⟩, hb, QQ_noP hp _ _, hN W g _ w (hs.put o.dst (dok_spec hd) h1) hb hO⟩
theorem AO.rd {v : V} {r : Nat} (hi : L[i]? = some o) (hg : o.guard = none) (hd : dok s o = true) (hp : noP Q) (h : RO c o s r v) (hr : r ∈ O) (hN : AO O c L.toArray Q need l (s.put o.dst v)) : AO O c L.toArray Q need ((i, true) :: l) s := fun W g a w hs hb hO => by
  obtain ⟨x, h1, h2⟩ := h W g a w hs hb (hO r hr)
  exact ⟨o, x, by simpa using hi, .inl ⟨by simp [Region.wanted, hg], h2⟩, hb, QQ_noP hp _ _, hN W g _ w (hs.put o.dst (dok_spec hd) h1) hb hO⟩
theorem AO.rdy {v : V} {r : Nat} {j : Nat} {b : Bool} (hi : L[i]? = some o) (hg : o.guard = some (j, b)) (hy : yld L.toArray s j = some b) (hd : dok s o = true) (hp : noP Q) (h : RO c o s r v) (hr : r ∈ O) (hN : AO O c L.toArray Q need l (s.put o.dst v)) : AO O c L.toArray Q need ((i, true) :: l) s := fun W g a w hs hb hO => by
  obtain ⟨x, h1, h2⟩ := h W g a w hs hb (hO r hr)
  exact ⟨o, x, by simpa using hi, .inl ⟨by simp [Region.wanted, hg, yld_spec hy hs], h2⟩, hb, QQ_noP hp _ _, hN W g _ w (hs.put o.dst (dok_spec hd) h1) hb hO⟩
theorem AO.nil (h : Q .normal s) : AO O c L.toArray Q need [] s := fun W g a w hs _ _ => ⟨g, s, h, hs⟩
/-- An operation that is not wanted. -/
theorem AO.skipT (hi : L[i]? = some o) (hw : ∀ g a w, Sim c g s a w → Region.wanted o (yielded L.toArray a.tmps) = false) (hd : dok s o = true) (hp : noP Q) (hN : AO O c L.toArray Q need l (s.put o.dst (.d (.p undef)))) : AO O c L.toArray Q need ((i, true) :: l) s := fun W g a w hs hb hO =>
  ⟨o, undef, by simpa using hi, .inr ⟨hw g a w hs, rfl⟩, hb, QQ_noP hp _ _, hN W g _ w (hs.put o.dst (dok_spec hd) (.d _ _ (.p _))) hb hO⟩
theorem AO.skipF (hi : L[i]? = some o) (hw : ∀ g a w, Sim c g s a w → Region.wanted o (yielded L.toArray a.tmps) = false) (hd : dok s o = true) (hN : AO O c L.toArray Q need l (s.put o.dst (.d (.p undef)))) : AO O c L.toArray Q need ((i, false) :: l) s := fun W g a w hs hb hO => by
  have hw' : ¬ Region.wanted o (yielded L.toArray a.tmps) = true := by rw [hw g a w hs]; simp
  show wpOp c.P L.toArray (QQ c Q) i _ a w
  unfold wpOp
  simp only [List.getElem?_toArray, hi]
  rw [if_neg hw']
  exact ⟨fun _ => hb, hN W g _ w (hs.put o.dst (dok_spec hd) (.d _ _ (.p _))) hb hO⟩
theorem not_wanted {j : Nat} {b b' : Bool} (hg : o.guard = some (j, b)) (hy : yld L.toArray s j = some b') (hb' : (b' == b) = false) : ∀ g a w, Sim c g s a w → Region.wanted o (yielded L.toArray a.tmps) = false := fun g a w hs => by
  simp only [Region.wanted, hg, yld_spec hy hs]; simpa using hb'
theorem not_wantedU {j : Nat} {b : Bool} (hg : o.guard = some (j, b)) (hy : und L.toArray s j) : ∀ g a w, Sim c g s a w → Region.wanted o (yielded L.toArray a.tmps) = false := fun g a w hs => by
  simp only [Region.wanted, hg, und_spec hy hs]; simp
theorem AO.noV {j : Nat} {b b' : Bool} (hi : L[i]? = some o) (hg : o.guard = some (j, b)) (hy : yld L.toArray s j = some b') (hb' : (b' == b) = false) (hd : dok s o = true) (hp : noP Q) (hN : AO O c L.toArray Q need l (s.put o.dst (.d (.p undef)))) : AO O c L.toArray Q need ((i, true) :: l) s := AO.skipT hi (not_wanted hg hy hb') hd hp hN
theorem AO.noU {j : Nat} {b : Bool} (hi : L[i]? = some o) (hg : o.guard = some (j, b)) (hy : und L.toArray s j) (hd : dok s o = true) (hp : noP Q) (hN : AO O c L.toArray Q need l (s.put o.dst (.d (.p undef)))) : AO O c L.toArray Q need ((i, true) :: l) s := AO.skipT hi (not_wantedU hg hy) hd hp hN
theorem AO.noV1 {j : Nat} {b b' : Bool} (hi : L[i]? = some o) (hg : o.guard = some (j, b)) (hy : yld L.toArray s j = some b') (hb' : (b' == b) = false) (hd : dok s o = true) (hN : AO O c L.toArray Q need l (s.put o.dst (.d (.p undef)))) : AO O c L.toArray Q need ((i, false) :: l) s := AO.skipF hi (not_wanted hg hy hb') hd hN
theorem AO.noU1 {j : Nat} {b : Bool} (hi : L[i]? = some o) (hg : o.guard = some (j, b)) (hy : und L.toArray s j) (hd : dok s o = true) (hN : AO O c L.toArray Q need l (s.put o.dst (.d (.p undef)))) : AO O c L.toArray Q need ((i, false) :: l) s := AO.skipF hi (not_wantedU hg hy) hd hN
end
end Go.Proofs.Ythlcginebeapdaa
