/- The rules of the walk without worlds: code, loops, regions. -/
import Derived.Test.YthlcginebeapdaaAmV
namespace Go.Proofs.Ythlcginebeapdaa
open Go.RowKit
set_option linter.unusedSimpArgs false
set_option linter.unusedVariables false

def QQ (c : Cx) (Q : Exit → S → Prop) : Exit → Act → World → Prop := fun e a w => ∃ g s, Q e s ∧ Sim c g s a w
/-- From any act and world that are as s says, the code ends as Q says. -/
def AW (c : Cx) (code : Code) (Q : Exit → S → Prop) (s : S) : Prop := ∀ g a w, Sim c g s a w → code.wp c.P (QQ c Q) a w
def AL (c : Cx) (ops : Array Oper) (l : List Oper) (Q : Exit → S → Prop) (s : S) : Prop := ∀ g a w, Sim c g s a w → wpList c.P ops (QQ c Q) l a w

def thenS (next : S → Prop) (Q : Exit → S → Prop) : Exit → S → Prop
  | .normal, s => next s
  | e, s => Q e s
def inBlockS (id : Nat) (Q : Exit → S → Prop) : Exit → S → Prop
  | .exit id', s => if id' = id then Q .normal s else Q (.exit id') s
  | e, s => Q e s

section
variable {c : Cx} {Q Q' : Exit → S → Prop} {s : S}

theorem QQ.mono (h : ∀ e s, Q e s → Q' e s) {e : Exit} {a : Act} {w : World} (hq : QQ c Q e a w) : QQ c Q' e a w := by
  obtain ⟨g, s, h1, h2⟩ := hq
  exact ⟨g, s, h e s h1, h2⟩
theorem AW.mono {x : Code} (h : AW c x Q s) (hq : ∀ e s, Q e s → Q' e s) : AW c x Q' s := fun g a w hs => wp_mono (h g a w hs) fun _ _ _ => QQ.mono hq
theorem AW.less {x : Code} {s' : S} (hl : Less s' s) (h : AW c x Q s') : AW c x Q s := fun g a w hs => h g a w (hs.less hl)
theorem AL.less {ops : Array Oper} {l : List Oper} {s' : S} (hl : Less s' s) (h : AL c ops l Q s') : AL c ops l Q s := fun g a w hs => h g a w (hs.less hl)

theorem AW.seq {x y : Code} (h : AW c x (thenS (AW c y Q) Q) s) : AW c (.seq x y) Q s := fun g a w hs => wp_seq (wp_mono (h g a w hs) fun e a' w' hq => by
  obtain ⟨g', s', h1, h2⟩ := hq
  cases e <;> first | exact h1 g' a' w' h2 | exact ⟨g', s', h1, h2⟩)
/-- What lies between is told by M. -/
theorem AW.seqc {x y : Code} (M : S → Prop) (h : AW c x (thenS (fun s => ∃ s', Less s' s ∧ M s') Q) s) (hM : ∀ s, M s → AW c y Q s) : AW c (.seq x y) Q s :=
  AW.seq (h.mono fun e s hq => by
    cases e
    case normal => obtain ⟨s', h1, h2⟩ := hq; exact AW.less h1 (hM s' h2)
    all_goals exact hq)
theorem AW.skip (h : Q .normal s) : AW c .skip Q s := fun g a w hs => wp_skip ⟨g, s, h, hs⟩
theorem AW.ret (h : Q .ret s) : AW c .ret Q s := fun g a w hs => wp_ret ⟨g, s, h, hs⟩
theorem AW.exit {id : Nat} (h : Q (.exit id) s) : AW c (.exit id) Q s := fun g a w hs => wp_exit ⟨g, s, h, hs⟩
theorem AW.block {id : Nat} {x : Code} (h : AW c x (inBlockS id Q) s) : AW c (.block id x) Q s := fun g a w hs => wp_block (wp_mono (h g a w hs) fun e a' w' hq => by
  obtain ⟨g', s', h1, h2⟩ := hq
  cases e <;> try exact ⟨g', s', h1, h2⟩
  rename_i id'
  simp only [inBlockS] at h1
  simp only [Exit.inBlock]
  split <;> rename_i hh
  · rw [if_pos hh] at h1; exact ⟨g', s', h1, h2⟩
  · rw [if_neg hh] at h1; exact ⟨g', s', h1, h2⟩)
theorem VRep.p_eq {w : World} {q : Nat → Prop} {g : Nat → Nat × Nat} {x y : Value} (h : VRep w q g (.d (.p x)) y) : y = x := by
  cases h with | d _ _ h => cases h; rfl
theorem AW.cond {x : Operand} {t e : Code} {b : Bool} (hc : s.ev x = some (.d (.p (.bool b)))) (ht : b = true → AW c t Q s) (hf : b = false → AW c e Q s) : AW c (.cond x t e) Q s := fun g a w hs =>
  wp_cond_split (VRep.p_eq (hs.ev hc)) (fun h => ht h g a w hs) (fun h => hf h g a w hs)
/-- A test that is told by a decidable fact. -/
theorem AW.condd {x : Operand} {t e : Code} {p : Prop} [Decidable p] (hc : s.ev x = some (.d (.p (.bool (decide p))))) (ht : p → AW c t Q s) (hf : ¬ p → AW c e Q s) : AW c (.cond x t e) Q s :=
  AW.cond hc (fun h => ht (of_decide_eq_true h)) (fun h => hf (of_decide_eq_false h))
theorem AW.condb {x : Operand} {t e : Code} {b b' : Bool} (hc : s.ev x = some (.d (.p (.bool b)))) (hb : b = b') (h : AW c (if b' then t else e) Q s) : AW c (.cond x t e) Q s := by
  subst hb
  exact AW.cond hc (fun h' => by subst h'; exact h) (fun h' => by subst h'; exact h)
theorem AW.region {id : Nat} {l : List Oper} (h : AL c l.toArray l Q s) : AW c (.region id l.toArray false) Q s := fun g a w hs => wp_region_lit (h g a w hs)
theorem AL.nil {ops : Array Oper} (h : Q .normal s) : AL c ops [] Q s := fun g a w hs => ⟨g, s, h, hs⟩

theorem least_nat {p : Nat → Prop} (h : ∃ n, p n) : ∃ n, p n ∧ ∀ m, p m → n ≤ m := by
  obtain ⟨n, hn⟩ := h
  induction n using Nat.strongRecOn with
  | _ n ih =>
    by_cases h : ∃ m, m < n ∧ p m
    · obtain ⟨m, h1, h2⟩ := h
      exact ih m h1 h2
    · exact ⟨n, hn, fun m hm => Nat.le_of_not_lt fun hlt => h ⟨m, hlt, hm⟩⟩

open Classical in
/-- A loop: I holds at each round's head, and μ goes down. -/
theorem AW.loop {x : Code} (I : S → Prop) (μ : S → Nat) (h0 : ∃ s', Less s' s ∧ I s')
    (round : ∀ s, I s → AW c x (thenS (fun s' => ∃ s'', Less s'' s' ∧ I s'' ∧ μ s'' < μ s) Q) s) : AW c (.loop x) Q s := by
  intro g a w hs
  have key : ∀ a w, (∃ g s, I s ∧ Sim c g s a w) → ∃ n, (∃ g s, I s ∧ Sim c g s a w ∧ μ s = n) ∧ ∀ m, (∃ g s, I s ∧ Sim c g s a w ∧ μ s = m) → n ≤ m :=
    fun a w ⟨g, s, h1, h2⟩ => least_nat ⟨μ s, g, s, h1, h2, rfl⟩
  refine wp_loop (fun a w => ∃ g s, I s ∧ Sim c g s a w) (fun a w => if h : ∃ g s, I s ∧ Sim c g s a w then Classical.choose (key a w h) else 0) ?_ ?_
  · obtain ⟨s', h1, h2⟩ := h0
    exact ⟨g, s', h2, hs.less h1⟩
  · intro a w hI
    obtain ⟨⟨g, s, h1, h2, h3⟩, h4⟩ := Classical.choose_spec (key a w hI)
    refine wp_mono (round s h1 g a w h2) fun e a' w' hq => ?_
    obtain ⟨g', s', h5, h6⟩ := hq
    cases e
    case normal =>
      obtain ⟨s'', h7, h8, h9⟩ := h5
      have hI' : ∃ g s, I s ∧ Sim c g s a' w' := ⟨g', s'', h8, h6.less h7⟩
      refine ⟨hI', ?_⟩
      simp only [dif_pos hI, dif_pos hI']
      have := (Classical.choose_spec (key a' w' hI')).2 (μ s'') ⟨g', s'', h8, h6.less h7, rfl⟩
      omega
    all_goals exact ⟨g', s', h5, h6⟩

/-- One operation: from s to states of N. -/
def Step (c : Cx) (o : Oper) (s : S) (N : S → Prop) : Prop := ∀ g a w, Sim c g s a w → ∀ (K : Act → World → Prop) (Q : Exit → Act → World → Prop),
  (∀ g' s' a' w', N s' → Sim c g' s' a' w' → K a' w') → o.wp c.P a w K Q
/-- One operation that leaves all old blocks as they were. -/
def StepM (c : Cx) (o : Oper) (s : S) (N : S → Prop) : Prop := ∀ g a w, Sim c g s a w → ∀ (K : Act → World → Prop) (Q : Exit → Act → World → Prop),
  (∀ g' s' a' w', N s' → Sim c g' s' a' w' → Below w.heap.size w w' → K a' w') → o.wp c.P a w K Q
/-- One operation that only reads: it yields v. -/
def RD (c : Cx) (o : Oper) (s : S) (v : V) : Prop := ∀ g a w, Sim c g s a w → ∃ x, VRep w (qt c s.H g) g v x ∧ ∀ w', Below w.heap.size w w' → (execOp a.eval o).run c.P w' = .ok (.value x) w'
/-- One operation that does not even read memory. -/
def RP (c : Cx) (o : Oper) (s : S) (v : V) : Prop := ∀ g a w, Sim c g s a w → ∃ x, VRep w (qt c s.H g) g v x ∧ ∀ w', (execOp a.eval o).run c.P w' = .ok (.value x) w'

theorem RP.rd {o : Oper} {v : V} (h : RP c o s v) : RD c o s v := fun g a w hs => by
  obtain ⟨x, h1, h2⟩ := h g a w hs
  exact ⟨x, h1, fun w' _ => h2 w'⟩
def dok (s : S) (o : Oper) : Bool := match o.dst with | some d => decide (d < s.n) | none => true
theorem dok_spec {s : S} {o : Oper} (h : dok s o = true) : ∀ k, o.dst = some k → k < s.n := by
  intro k hk
  simp only [dok, hk, decide_eq_true_eq] at h
  exact h
theorem RD.stepM {o : Oper} {v : V} {N : S → Prop} (h : RD c o s v) (hd : dok s o = true) (hN : N (s.put o.dst v)) : StepM c o s N := by
  intro g a w hs K Q hK
  obtain ⟨x, h1, h2⟩ := h g a w hs
  unfold Oper.wp
  rw [h2 w (Below.refl _ _)]
  exact hK g _ _ _ hN (hs.put o.dst (dok_spec hd) h1) (Below.refl _ _)
theorem StepM.step {o : Oper} {N : S → Prop} (h : StepM c o s N) : Step c o s N := fun g a w hs K Q hK => h g a w hs K Q fun g' s' a' w' h1 h2 _ => hK g' s' a' w' h1 h2

theorem AL.step {ops : Array Oper} {o : Oper} {rest : List Oper} (hg : o.guard = none) (h : Step c o s (AL c ops rest Q)) : AL c ops (o :: rest) Q s := fun g a w hs =>
  wpList_plain hg fun K hK => h g a w hs K _ fun g' s' a' w' h1 h2 => hK a' w' (h1 g' a' w' h2)
theorem AL.stepM {ops : Array Oper} {o : Oper} {rest : List Oper} (hg : o.guard = none) (h : StepM c o s (AL c ops rest Q)) : AL c ops (o :: rest) Q s := AL.step hg h.step
theorem AL.rd {ops : Array Oper} {o : Oper} {rest : List Oper} {v : V} (hg : o.guard = none) (hd : dok s o = true) (h : RD c o s v) (hN : AL c ops rest Q (s.put o.dst v)) : AL c ops (o :: rest) Q s :=
  AL.step hg (h.stepM hd hN).step
theorem AL.rp {ops : Array Oper} {o : Oper} {rest : List Oper} {v : V} (hg : o.guard = none) (hd : dok s o = true) (h : RP c o s v) (hN : AL c ops rest Q (s.put o.dst v)) : AL c ops (o :: rest) Q s := AL.rd hg hd h.rd hN

/-- A guarded operation. -/
def yld (ops : Array Oper) (s : S) (j : Nat) : Option Bool :=
  match (ops[j]?).bind (·.dst) with
  | some d => match fnd s.T d with
    | some (.d (.p (.bool b))) => some b
    | _ => none
  | none => none
theorem yld_spec {ops : Array Oper} {j : Nat} {b : Bool} {g : Nat → Nat × Nat} {a : Act} {w : World} (h : yld ops s j = some b) (hs : Sim c g s a w) : yielded ops a.tmps j = some b := by
  simp only [yld] at h
  split at h
  · rename_i d hd
    split at h
    · rename_i b' hb
      simp only [Option.some.injEq] at h
      subst h
      obtain ⟨x, h1, h2⟩ := hs.tmp d _ hb
      have := VRep.p_eq h2
      subst this
      simp [yielded, hd, h1]
    · cases h
  · cases h
theorem AL.yes {ops : Array Oper} {o : Oper} {rest : List Oper} {j : Nat} {b : Bool} (hg : o.guard = some (j, b)) (hy : yld ops s j = some b) (h : Step c o s (AL c ops rest Q)) : AL c ops (o :: rest) Q s := fun g a w hs =>
  wpList_step fun K hK => by
    have hw : Region.wanted o (yielded ops a.tmps) = true := by simp [Region.wanted, hg, yld_spec hy hs]
    rw [if_pos hw]
    exact h g a w hs K _ fun g' s' a' w' h1 h2 => hK a' w' (h1 g' a' w' h2)
theorem AL.no {ops : Array Oper} {o : Oper} {rest : List Oper} {j : Nat} {b b' : Bool} (hg : o.guard = some (j, b)) (hy : yld ops s j = some b') (hb : (b' == b) = false) (hd : dok s o = true) (h : AL c ops rest Q (s.put o.dst .junk)) : AL c ops (o :: rest) Q s := fun g a w hs =>
  wpList_step fun K hK => by
    have hw : ¬ Region.wanted o (yielded ops a.tmps) = true := by
      simp only [Region.wanted, hg, yld_spec hy hs]
      simpa using hb
    rw [if_neg hw]
    exact hK _ _ (h g _ w (hs.put o.dst (dok_spec hd) (.junk _)))
end
end Go.Proofs.Ythlcginebeapdaa
