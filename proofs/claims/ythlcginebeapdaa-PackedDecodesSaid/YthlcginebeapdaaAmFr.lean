/- Drawn regions: an operation that does not even read memory may come at any time, behind writes too. Kinds: 0 in its turn, 1 a read that comes early, 2 an operation without memory that comes early. -/
import Derived.Test.YthlcginebeapdaaAmJ
namespace Go.Proofs.Ythlcginebeapdaa
open Go.RowKit
set_option linter.unusedSimpArgs false
set_option linter.unusedVariables false

section
variable {P : Program} {ops : Array Oper} {Q : Exit → Act → World → Prop} {md : Region.Mode} {T : World → Prop} {need : Nat → Bool}
def anyF (P : Program) (md : Region.Mode) (ops : Array Oper) (Q : Exit → Act → World → Prop) (T : World → Prop) (need : Nat → Bool) : Nat → Array Bool → Act → World → Prop
  | 0, listed, a, w => Region.ready md ops listed = [] ∧ Q .normal a w
  | n + 1, listed, a, w => (Region.ready md ops listed = [] → Q .normal a w) ∧
      ∀ i ∈ Region.ready md ops listed, wpOp P ops Q i (fun a' w' => (need i = true → T w → T w') ∧ anyF P md ops Q T need n (listed.setIfInBounds i true) a' w') a w
theorem any_of_anyF : ∀ (n : Nat) (listed : Array Bool) (a : Act) (w : World), anyF P md ops Q T need n listed a w → wpAny P md ops Q n listed a w
  | 0, _, _, _, h => h
  | n + 1, _, _, _, h => ⟨h.1, fun i hi => wpOp_mono (fun a' w' h' => any_of_anyF n _ a' w' h'.2) (h.2 i hi)⟩
theorem not_listed {listed : Array Bool} {i : Nat} (hr : i ∈ Region.ready md ops listed) : listed.getD i false = false := by
  have hil := (mem_ready.1 hr).1
  rw [Array.getD_eq_getD_getElem?] at hil ⊢
  cases hl : listed[i]? with
  | none => rw [hl] at hil; cases hil
  | some b => rw [hl] at hil; exact hil
theorem anyF_early {k i N : Nat} {oi : Oper} {v : Value} {S : World → Prop} (hk : (k = 2 ∧ S = fun _ => True) ∨ (k = 1 ∧ S = T ∧ ∀ j, j ≠ i → j < ops.size → need j = true ∨ reachB md ops N j i = true)) (hi : ops[i]? = some oi) (hsel : ∀ (j : Nat) (o : Oper) cs b, ops[j]? = some o → o.op ≠ .select cs b)
    (hQ : ∀ c a w, Q (.panic c) (a.put oi.dst v) w → Q (.panic c) a w) (n : Nat) :
    ∀ (listed : Array Bool) (a : Act) (w : World), closedL md ops listed →
      (∀ j oj, ops[j]? = some oj → j ≠ i → listed.getD j true = false → (∀ e ∈ oj.after, Region.binds md e = true → e.on ≠ i) → oi.apart ops oj = true) →
      i ∈ Region.ready md ops listed → YieldsIf P ops S oi v a → S w →
      anyF P md ops Q T need n (listed.setIfInBounds i true) (a.put oi.dst v) w → anyF P md ops Q T need (n + 1) listed a w := by
  induction n with
  | zero =>
    intro listed a w hcl hfree hr hy hS H
    refine ⟨fun h => by rw [h] at hr; exact absurd hr List.not_mem_nil, fun j hj => ?_⟩
    by_cases hji : j = i
    · subst hji
      exact hy.wpOp hi hS ⟨fun _ h => h, H⟩
    · have hm := ready_mono hj hji
      rw [H.1] at hm
      exact absurd hm List.not_mem_nil
  | succ n ih =>
    intro listed a w hcl hfree hr hy hS H
    refine ⟨fun h => by rw [h] at hr; exact absurd hr List.not_mem_nil, fun j hj => ?_⟩
    by_cases hji : j = i
    · subst hji
      exact hy.wpOp hi hS ⟨fun _ h => h, H⟩
    · have hij : i ≠ j := fun h => hji h.symm
      have hnext := H.2 j (ready_mono hj hji)
      obtain ⟨hjl, oj, hoj, hdone⟩ := mem_ready.1 hj
      have hil' := not_listed hr
      have hno : ∀ e ∈ oj.after, Region.binds md e = true → e.on ≠ i := by
        intro e he hb hei
        have hd := hdone e he hb
        rw [hei, hil'] at hd
        cases hd
      have hstep := wpOp_putIf hoj (hfree j oj hoj hji hjl hno) (fun cs b => hsel i oi cs b hi) (fun cs b => hsel j oj cs b hoj) hQ hy hnext
      refine wpOp_mono (fun a' w' h3 => ?_) hstep
      obtain ⟨hy', hS', hrest⟩ := h3
      have hSw : S w' := by
        rcases hk with ⟨_, rfl⟩ | ⟨_, rfl, hz⟩
        · trivial
        · refine hS' ?_ hS
          rcases hz j hji (Array.getElem?_eq_some_iff.1 hoj).1 with h | h
          · exact h
          · have := reach_ready hcl h hj
            rw [hil'] at this
            cases this
      refine ⟨hS', ih _ a' w' (closed_set hcl hj) ?_ (ready_mono hr hij) hy' hSw ?_⟩
      · intro k ok hk hki hkl hkn
        refine hfree k ok hk hki ?_ hkn
        by_cases hjk : j = k
        · subst hjk
          exact hjl
        · rwa [getD_set_ne true hjk] at hkl
      · rw [Array.setIfInBounds_comm _ _ hji]
        exact hrest
def ASeqF (P : Program) (ops : Array Oper) (Q : Exit → Act → World → Prop) (T : World → Prop) (need : Nat → Bool) : List (Nat × Nat) → Act → World → Prop
  | [], a, w => Q .normal a w
  | (i, 0) :: r, a, w => wpOp P ops Q i (fun a' w' => (need i = true → T w → T w') ∧ ASeqF P ops Q T need r a' w') a w
  | (i, 1) :: r, a, w => ∃ oi x, ops[i]? = some oi ∧ YieldsIf P ops T oi x a ∧ T w ∧ (∀ c a w, Q (.panic c) (a.put oi.dst x) w → Q (.panic c) a w) ∧ ASeqF P ops Q T need r (a.put oi.dst x) w
  | (i, _ + 2) :: r, a, w => ∃ oi x, ops[i]? = some oi ∧ YieldsIf P ops (fun _ => True) oi x a ∧ (∀ c a w, Q (.panic c) (a.put oi.dst x) w → Q (.panic c) a w) ∧ ASeqF P ops Q T need r (a.put oi.dst x) w
def okF (md : Region.Mode) (ops : Array Oper) (need : Nat → Bool) (N : Nat) : List (Nat × Nat) → Array Bool → Bool
  | [], listed => (Region.ready md ops listed).isEmpty
  | (i, 0) :: r, listed => (Region.ready md ops listed == [i]) && okF md ops need N r (listed.setIfInBounds i true)
  | (i, 1) :: r, listed => (Region.ready md ops listed).contains i && Region.free md ops listed i && ((List.range ops.size).all fun j => j == i || need j || reachB md ops N j i) && okF md ops need N r (listed.setIfInBounds i true)
  | (i, _ + 2) :: r, listed => (Region.ready md ops listed).contains i && Region.free md ops listed i && okF md ops need N r (listed.setIfInBounds i true)
theorem anyF_of {N : Nat} (hsel : Region.noSelect ops = true) : ∀ (l : List (Nat × Nat)) (listed : Array Bool) (a : Act) (w : World), closedL md ops listed → okF md ops need N l listed = true → ASeqF P ops Q T need l a w → anyF P md ops Q T need l.length listed a w
  | [], listed, a, w, _, hok, h => ⟨by simpa [okF] using hok, h⟩
  | (i, 0) :: r, listed, a, w, hcl, hok, h => by
    simp only [okF, Bool.and_eq_true, beq_iff_eq] at hok
    obtain ⟨h1, h2⟩ := hok
    have hr : i ∈ Region.ready md ops listed := by rw [h1]; exact List.mem_singleton.2 rfl
    refine ⟨fun h0 => (by rw [h0] at h1; cases h1), fun j hj => ?_⟩
    rw [h1] at hj
    obtain rfl := List.mem_singleton.1 hj
    exact wpOp_mono (fun a' w' h' => ⟨h'.1, anyF_of hsel r _ a' w' (closed_set hcl hr) h2 h'.2⟩) h
  | (i, 1) :: r, listed, a, w, hcl, hok, h => by
    simp only [okF, Bool.and_eq_true, List.all_eq_true, List.mem_range, Bool.or_eq_true, beq_iff_eq] at hok
    obtain ⟨⟨⟨h1, h2⟩, h3⟩, h4⟩ := hok
    obtain ⟨oi, x, g1, g2, g3, g4, g5⟩ := h
    have hr : i ∈ Region.ready md ops listed := by simpa using h1
    refine anyF_early (k := 1) (N := N) (S := T) (.inr ⟨rfl, rfl, fun j hj hlt => ?_⟩) g1 (Region.noSelect_spec hsel) g4 r.length listed a w hcl (Region.free_spec g1 h2) hr g2 g3 (anyF_of hsel r _ _ w (closed_set hcl hr) h4 g5)
    rcases h3 j hlt with (h | h) | h
    · exact absurd h hj
    · exact .inl h
    · exact .inr h
  | (i, m + 2) :: r, listed, a, w, hcl, hok, h => by
    simp only [okF, Bool.and_eq_true] at hok
    obtain ⟨⟨h1, h2⟩, h4⟩ := hok
    obtain ⟨oi, x, g1, g2, g4, g5⟩ := h
    have hr : i ∈ Region.ready md ops listed := by simpa using h1
    exact anyF_early (k := 2) (N := N) (S := fun _ => True) (.inl ⟨rfl, rfl⟩) g1 (Region.noSelect_spec hsel) g4 r.length listed a w hcl (Region.free_spec g1 h2) hr g2 trivial (anyF_of hsel r _ _ w (closed_set hcl hr) h4 g5)
end

section
variable {c : Cx} {s : S} {Q : Exit → S → Prop} {ops : Array Oper} {L : List Oper} {need : Nat → Bool} {l : List (Nat × Nat)} {i : Nat} {o : Oper}
/-- First reads, then what makes new memory, then anything. -/
def AF1 (c : Cx) (ops : Array Oper) (Q : Exit → S → Prop) (need : Nat → Bool) (l : List (Nat × Nat)) (s : S) : Prop := ∀ g a w, Sim c g s a w → ASeqF c.P ops (QQ c Q) (Below w.heap.size w) need l a w
def AF2 (c : Cx) (ops : Array Oper) (Q : Exit → S → Prop) (need : Nat → Bool) (l : List (Nat × Nat)) (s : S) : Prop := ∀ W g a w, Sim c g s a w → Below W.heap.size W w → ASeqF c.P ops (QQ c Q) (Below W.heap.size W) need l a w
def AF3 (c : Cx) (ops : Array Oper) (Q : Exit → S → Prop) (need : Nat → Bool) (l : List (Nat × Nat)) (s : S) : Prop := ∀ (T : World → Prop) g a w, Sim c g s a w → ASeqF c.P ops (QQ c Q) T need l a w
theorem AW.drawF {id : Nat} {l : List Oper} (order : List (Nat × Nat)) (need : Nat → Bool) (N : Nat) (hm : c.P.follows .mixedOrders = true) (hsel : Region.noSelect l.toArray = true) (hlen : order.length = l.length)
    (hok : okF .any l.toArray need N order (Array.replicate l.length false) = true) (h : AF1 c l.toArray Q need order s) : AW c (.region id l.toArray true) Q s := by
  intro g a w hs
  refine wp_region_any hm ?_
  have hs' : Sim c g s a w.drew := hs.move (Below.drew (Below.refl _ _))
  have := any_of_anyF _ _ _ _ (anyF_of (P := c.P) (Q := QQ c Q) (T := Below w.drew.heap.size w.drew) (need := need) (md := .any) hsel order (Array.replicate l.length false) a w.drew (by
    intro j oj _ hl
    rw [Array.getD_eq_getD_getElem?, Array.getElem?_replicate] at hl
    split at hl <;> simp at hl) hok (h g a _ hs'))
  rw [hlen] at this
  simpa using this
theorem AF1.rd {v : V} (hi : L[i]? = some o) (hg : o.guard = none) (hd : dok s o = true) (hp : noP Q) (h : RD c o s v) (hN : AF1 c L.toArray Q need l (s.put o.dst v)) : AF1 c L.toArray Q need ((i, 1) :: l) s := fun g a w hs => by
  obtain ⟨x, h1, h2⟩ := h g a w hs
  exact ⟨o, x, by simpa using hi, .inl ⟨by simp [Region.wanted, hg], h2⟩, Below.refl _ _, QQ_noP hp _ _, hN g _ w (hs.put o.dst (dok_spec hd) h1)⟩
theorem AF1.rdy {v : V} {j : Nat} {b : Bool} (hi : L[i]? = some o) (hg : o.guard = some (j, b)) (hy : yld L.toArray s j = some b) (hd : dok s o = true) (hp : noP Q) (h : RD c o s v) (hN : AF1 c L.toArray Q need l (s.put o.dst v)) : AF1 c L.toArray Q need ((i, 1) :: l) s := fun g a w hs => by
  obtain ⟨x, h1, h2⟩ := h g a w hs
  exact ⟨o, x, by simpa using hi, .inl ⟨by simp [Region.wanted, hg, yld_spec hy hs], h2⟩, Below.refl _ _, QQ_noP hp _ _, hN g _ w (hs.put o.dst (dok_spec hd) h1)⟩
theorem AF1.rp {v : V} (hi : L[i]? = some o) (hg : o.guard = none) (hd : dok s o = true) (hp : noP Q) (h : RP c o s v) (hN : AF1 c L.toArray Q need l (s.put o.dst v)) : AF1 c L.toArray Q need ((i, 2) :: l) s := fun g a w hs => by
  obtain ⟨x, h1, h2⟩ := h g a w hs
  exact ⟨o, x, by simpa using hi, .inl ⟨by simp [Region.wanted, hg], fun w' _ => h2 w'⟩, QQ_noP hp _ _, hN g _ w (hs.put o.dst (dok_spec hd) h1)⟩
theorem AF1.go (h : AF2 c L.toArray Q need l s) : AF1 c L.toArray Q need l s := fun g a w hs => h w g a w hs (Below.refl _ _)
theorem AF1.nil (h : Q .normal s) : AF1 c L.toArray Q need [] s := fun g a w hs => ⟨g, s, h, hs⟩
theorem AF2.rp {v : V} (hi : L[i]? = some o) (hg : o.guard = none) (hd : dok s o = true) (hp : noP Q) (h : RP c o s v) (hN : AF2 c L.toArray Q need l (s.put o.dst v)) : AF2 c L.toArray Q need ((i, 2) :: l) s := fun W g a w hs hb => by
  obtain ⟨x, h1, h2⟩ := h g a w hs
  exact ⟨o, x, by simpa using hi, .inl ⟨by simp [Region.wanted, hg], fun w' _ => h2 w'⟩, QQ_noP hp _ _, hN W g _ w (hs.put o.dst (dok_spec hd) h1) hb⟩
theorem AF2.stepM (hi : L[i]? = some o) (hg : o.guard = none) (h : StepM c o s (AF2 c L.toArray Q need l)) : AF2 c L.toArray Q need ((i, 0) :: l) s := fun W g a w hs hb =>
  wpOp_of (by simpa using hi) hg (h g a w hs _ _ fun g' s' a' w' h1 h2 h3 => ⟨fun _ _ => hb.trans (h3.mono hb.size), h1 W g' a' w' h2 (hb.trans (h3.mono hb.size))⟩)
theorem AF2.sm {X : S} (hi : L[i]? = some o) (hg : o.guard = none) (h : StepM c o s (fun s' => s' = X)) (hN : AF2 c L.toArray Q need l X) : AF2 c L.toArray Q need ((i, 0) :: l) s :=
  AF2.stepM hi hg fun g a w hs K Q' hK => h g a w hs K Q' fun g' s' a' w' e h1 h2 => hK g' s' a' w' (by subst e; exact hN) h1 h2
theorem AF2.call {post : V → Prop} (hi : L[i]? = some o) (hg : o.guard = none) (h : StepM c o s (fun s' => ∃ v, post v ∧ v.pure ∧ s' = s.put o.dst v)) (hN : ∀ v, post v → v.pure → AF2 c L.toArray Q need l (s.put o.dst v)) : AF2 c L.toArray Q need ((i, 0) :: l) s :=
  AF2.stepM hi hg fun g a w hs K Q' hK => h g a w hs K Q' fun g' s' a' w' ⟨v, h1, h2, e⟩ h3 h4 => hK g' s' a' w' (by subst e; exact hN v h1 h2) h3 h4
theorem AF2.rd1 {v : V} (hi : L[i]? = some o) (hg : o.guard = none) (hd : dok s o = true) (h : RD c o s v) (hN : AF2 c L.toArray Q need l (s.put o.dst v)) : AF2 c L.toArray Q need ((i, 0) :: l) s :=
  AF2.stepM hi hg (h.stepM hd hN)
theorem AF2.rp1 {v : V} (hi : L[i]? = some o) (hg : o.guard = none) (hd : dok s o = true) (h : RP c o s v) (hN : AF2 c L.toArray Q need l (s.put o.dst v)) : AF2 c L.toArray Q need ((i, 0) :: l) s := AF2.rd1 hi hg hd h.rd hN
theorem AF2.go (h : AF3 c L.toArray Q need l s) : AF2 c L.toArray Q need l s := fun W g a w hs _ => h _ g a w hs
theorem AF2.nil (h : Q .normal s) : AF2 c L.toArray Q need [] s := fun W g a w hs _ => ⟨g, s, h, hs⟩
theorem AF3.rp {v : V} (hi : L[i]? = some o) (hg : o.guard = none) (hd : dok s o = true) (hp : noP Q) (h : RP c o s v) (hN : AF3 c L.toArray Q need l (s.put o.dst v)) : AF3 c L.toArray Q need ((i, 2) :: l) s := fun T g a w hs => by
  obtain ⟨x, h1, h2⟩ := h g a w hs
  exact ⟨o, x, by simpa using hi, .inl ⟨by simp [Region.wanted, hg], fun w' _ => h2 w'⟩, QQ_noP hp _ _, hN T g _ w (hs.put o.dst (dok_spec hd) h1)⟩
theorem AF3.step (hi : L[i]? = some o) (hg : o.guard = none) (hn : need i = false) (h : Step c o s (AF3 c L.toArray Q need l)) : AF3 c L.toArray Q need ((i, 0) :: l) s := fun T g a w hs =>
  wpOp_of (by simpa using hi) hg (h g a w hs _ _ fun g' s' a' w' h1 h2 => ⟨fun h0 => (by rw [hn] at h0; cases h0), h1 T g' a' w' h2⟩)
theorem AF3.st {X : S} (hi : L[i]? = some o) (hg : o.guard = none) (hn : need i = false) (h : Step c o s (fun s' => s' = X)) (hN : AF3 c L.toArray Q need l X) : AF3 c L.toArray Q need ((i, 0) :: l) s :=
  AF3.step hi hg hn fun g a w hs K Q' hK => h g a w hs K Q' fun g' s' a' w' e h1 => hK g' s' a' w' (by subst e; exact hN) h1
theorem AF3.rd1 {v : V} (hi : L[i]? = some o) (hg : o.guard = none) (hn : need i = false) (hd : dok s o = true) (h : RD c o s v) (hN : AF3 c L.toArray Q need l (s.put o.dst v)) : AF3 c L.toArray Q need ((i, 0) :: l) s :=
  AF3.step hi hg hn (h.stepM hd hN).step
theorem AF3.rp1 {v : V} (hi : L[i]? = some o) (hg : o.guard = none) (hn : need i = false) (hd : dok s o = true) (h : RP c o s v) (hN : AF3 c L.toArray Q need l (s.put o.dst v)) : AF3 c L.toArray Q need ((i, 0) :: l) s := AF3.rd1 hi hg hn hd h.rd hN
theorem AF3.sm {X : S} (hi : L[i]? = some o) (hg : o.guard = none) (hn : need i = false) (h : StepM c o s (fun s' => s' = X)) (hN : AF3 c L.toArray Q need l X) : AF3 c L.toArray Q need ((i, 0) :: l) s := AF3.st hi hg hn h.step hN
theorem AF3.nil (h : Q .normal s) : AF3 c L.toArray Q need [] s := fun T g a w hs => ⟨g, s, h, hs⟩
end
end Go.Proofs.Ythlcginebeapdaa
