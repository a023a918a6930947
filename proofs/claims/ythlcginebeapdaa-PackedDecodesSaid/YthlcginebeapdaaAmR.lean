/- Regions that draw their order: reads may come first, whatever is left comes up one by one. -/
import Derived.Test.YthlcginebeapdaaAmI
namespace Go.Proofs.Ythlcginebeapdaa
open Go.RowKit
set_option linter.unusedSimpArgs false
set_option linter.unusedVariables false

section
variable {P : Program} {ops : Array Oper} {Q : Exit → Act → World → Prop} {md : Region.Mode} {T : World → Prop} {need : Nat → Bool}

/-- What is listed has all it waits for listed. -/
def closedL (md : Region.Mode) (ops : Array Oper) (listed : Array Bool) : Prop := ∀ (j : Nat) (oj : Oper), ops[j]? = some oj → listed.getD j false = true → ∀ e ∈ oj.after, Region.binds md e = true → listed.getD e.on false = true
def reachB (md : Region.Mode) (ops : Array Oper) : Nat → Nat → Nat → Bool
  | 0, _, _ => false
  | n + 1, z, i =>
    match ops[z]? with
    | some oz => oz.after.any fun e => Region.binds md e && (e.on == i || reachB md ops n e.on i)
    | none => false
theorem reach_listed {listed : Array Bool} (hc : closedL md ops listed) {i : Nat} : ∀ (n z : Nat), reachB md ops n z i = true → listed.getD z false = true → listed.getD i false = true
  | 0, z, h, _ => by simp [reachB] at h
  | n + 1, z, h, hz => by
    simp only [reachB] at h
    split at h
    · rename_i oz ho
      obtain ⟨e, he, hb⟩ := Array.any_eq_true'.1 h
      simp only [Bool.and_eq_true, Bool.or_eq_true, beq_iff_eq] at hb
      have h1 := hc z oz ho hz e he hb.1
      rcases hb.2 with h2 | h2
      · rw [← h2]; exact h1
      · exact reach_listed hc n e.on h2 h1
    · cases h
theorem reach_ready {listed : Array Bool} (hc : closedL md ops listed) {n z i : Nat} (h : reachB md ops n z i = true) (hr : z ∈ Region.ready md ops listed) : listed.getD i false = true := by
  obtain ⟨_, oz, ho, hd⟩ := mem_ready.1 hr
  cases n with
  | zero => simp [reachB] at h
  | succ n =>
    simp only [reachB, ho] at h
    obtain ⟨e, he, hb⟩ := Array.any_eq_true'.1 h
    simp only [Bool.and_eq_true, Bool.or_eq_true, beq_iff_eq] at hb
    have h1 := hd e he hb.1
    rcases hb.2 with h2 | h2
    · rw [← h2]; exact h1
    · exact reach_listed hc n e.on h2 h1
theorem getD_set_mono {listed : Array Bool} {i k : Nat} (h : listed.getD k false = true) : (listed.setIfInBounds i true).getD k false = true := by
  rw [Array.getD_eq_getD_getElem?] at h ⊢
  rw [Array.getElem?_setIfInBounds]
  split
  · split
    · rfl
    · rename_i h1 h2
      subst h1
      rw [Array.getElem?_eq_none (by omega)] at h
      cases h
  · exact h
theorem closed_set {listed : Array Bool} (hc : closedL md ops listed) {i : Nat} (hr : i ∈ Region.ready md ops listed) : closedL md ops (listed.setIfInBounds i true) := by
  intro j oj hj hl e he hb
  by_cases hji : j = i
  · subst hji
    obtain ⟨_, oz, ho, hd⟩ := mem_ready.1 hr
    rw [ho] at hj
    simp only [Option.some.injEq] at hj
    subst hj
    exact getD_set_mono (hd e he hb)
  · refine getD_set_mono (hc j oj hj ?_ e he hb)
    rw [Array.getD_eq_getD_getElem?, Array.getElem?_setIfInBounds_ne (Ne.symm hji)] at hl
    rw [Array.getD_eq_getD_getElem?]
    exact hl

def anyN (P : Program) (md : Region.Mode) (ops : Array Oper) (Q : Exit → Act → World → Prop) (T : World → Prop) (need : Nat → Bool) : Nat → Array Bool → Act → World → Prop
  | 0, listed, a, w => Region.ready md ops listed = [] ∧ Q .normal a w
  | n + 1, listed, a, w => (Region.ready md ops listed = [] → Q .normal a w) ∧
      ∀ i ∈ Region.ready md ops listed, wpOp P ops Q i (fun a' w' => (need i = true → T w') ∧ anyN P md ops Q T need n (listed.setIfInBounds i true) a' w') a w
theorem any_of_anyN : ∀ (n : Nat) (listed : Array Bool) (a : Act) (w : World), anyN P md ops Q T need n listed a w → wpAny P md ops Q n listed a w
  | 0, _, _, _, h => h
  | n + 1, _, _, _, h => ⟨h.1, fun i hi => wpOp_mono (fun a' w' h' => any_of_anyN n _ a' w' h'.2) (h.2 i hi)⟩

theorem anyN_early {i N : Nat} {oi : Oper} {v : Value} (hz : ∀ j, j ≠ i → j < ops.size → need j = true ∨ reachB md ops N j i = true) (hi : ops[i]? = some oi) (hsel : ∀ (j : Nat) (o : Oper) cs b, ops[j]? = some o → o.op ≠ .select cs b)
    (hQ : ∀ c a w, Q (.panic c) (a.put oi.dst v) w → Q (.panic c) a w) (n : Nat) :
    ∀ (listed : Array Bool) (a : Act) (w : World), closedL md ops listed →
      (∀ j oj, ops[j]? = some oj → j ≠ i → listed.getD j true = false → (∀ e ∈ oj.after, Region.binds md e = true → e.on ≠ i) → oi.apart ops oj = true) →
      i ∈ Region.ready md ops listed → YieldsIf P ops T oi v a → T w →
      anyN P md ops Q T need n (listed.setIfInBounds i true) (a.put oi.dst v) w → anyN P md ops Q T need (n + 1) listed a w := by
  induction n with
  | zero =>
    intro listed a w hcl hfree hr hy hS H
    refine ⟨fun h => by rw [h] at hr; exact absurd hr List.not_mem_nil, fun j hj => ?_⟩
    by_cases hji : j = i
    · subst hji
      exact hy.wpOp hi hS ⟨fun _ => hS, H⟩
    · have hm := ready_mono hj hji
      rw [H.1] at hm
      exact absurd hm List.not_mem_nil
  | succ n ih =>
    intro listed a w hcl hfree hr hy hS H
    refine ⟨fun h => by rw [h] at hr; exact absurd hr List.not_mem_nil, fun j hj => ?_⟩
    by_cases hji : j = i
    · subst hji
      exact hy.wpOp hi hS ⟨fun _ => hS, H⟩
    · have hij : i ≠ j := fun h => hji h.symm
      have hnext := H.2 j (ready_mono hj hji)
      obtain ⟨hjl, oj, hoj, hdone⟩ := mem_ready.1 hj
      have hil := (mem_ready.1 hr).1
      have hil' : listed.getD i false = false := by
        rw [Array.getD_eq_getD_getElem?] at hil ⊢
        cases hl : listed[i]? with
        | none => rw [hl] at hil; cases hil
        | some b => rw [hl] at hil; exact hil
      have hno : ∀ e ∈ oj.after, Region.binds md e = true → e.on ≠ i := by
        intro e he hb hei
        have hd := hdone e he hb
        rw [hei, hil'] at hd
        cases hd
      have hnj : need j = true := by
        rcases hz j hji (Array.getElem?_eq_some_iff.1 hoj).1 with h | h
        · exact h
        · have := reach_ready hcl h hj
          rw [hil'] at this
          cases this
      have hstep := wpOp_putIf hoj (hfree j oj hoj hji hjl hno) (fun cs b => hsel i oi cs b hi) (fun cs b => hsel j oj cs b hoj) hQ hy hnext
      refine wpOp_mono (fun a' w' h3 => ?_) hstep
      obtain ⟨hy', hS', hrest⟩ := h3
      refine ⟨fun _ => hS' hnj, ih _ a' w' (closed_set hcl hj) ?_ (ready_mono hr hij) hy' (hS' hnj) ?_⟩
      · intro k ok hk hki hkl hkn
        refine hfree k ok hk hki ?_ hkn
        by_cases hjk : j = k
        · subst hjk
          exact hjl
        · rwa [getD_set_ne true hjk] at hkl
      · rw [Array.setIfInBounds_comm _ _ hji]
        exact hrest

/-- The operations in an order of ours: true: a read that may come early. -/
def ASeq (P : Program) (ops : Array Oper) (Q : Exit → Act → World → Prop) (T : World → Prop) (need : Nat → Bool) : List (Nat × Bool) → Act → World → Prop
  | [], a, w => Q .normal a w
  | (i, true) :: r, a, w => ∃ oi x, ops[i]? = some oi ∧ YieldsIf P ops T oi x a ∧ T w ∧ (∀ c a w, Q (.panic c) (a.put oi.dst x) w → Q (.panic c) a w) ∧ ASeq P ops Q T need r (a.put oi.dst x) w
  | (i, false) :: r, a, w => wpOp P ops Q i (fun a' w' => (need i = true → T w') ∧ ASeq P ops Q T need r a' w') a w
def okS (md : Region.Mode) (ops : Array Oper) (need : Nat → Bool) (N : Nat) : List (Nat × Bool) → Array Bool → Bool
  | [], listed => (Region.ready md ops listed).isEmpty
  | (i, true) :: r, listed => (Region.ready md ops listed).contains i && Region.free md ops listed i && ((List.range ops.size).all fun j => j == i || need j || reachB md ops N j i) && okS md ops need N r (listed.setIfInBounds i true)
  | (i, false) :: r, listed => (Region.ready md ops listed == [i]) && okS md ops need N r (listed.setIfInBounds i true)
theorem anyN_of_ASeq {N : Nat} (hsel : Region.noSelect ops = true) : ∀ (l : List (Nat × Bool)) (listed : Array Bool) (a : Act) (w : World), closedL md ops listed → okS md ops need N l listed = true → ASeq P ops Q T need l a w → anyN P md ops Q T need l.length listed a w
  | [], listed, a, w, _, hok, h => ⟨by simpa [okS] using hok, h⟩
  | (i, true) :: r, listed, a, w, hcl, hok, h => by
    simp only [okS, Bool.and_eq_true, List.all_eq_true, List.mem_range, Bool.or_eq_true, beq_iff_eq] at hok
    obtain ⟨⟨⟨h1, h2⟩, h3⟩, h4⟩ := hok
    obtain ⟨oi, x, g1, g2, g3, g4, g5⟩ := h
    have hr : i ∈ Region.ready md ops listed := by simpa using h1
    refine anyN_early (N := N) (fun j hj hlt => ?_) g1 (Region.noSelect_spec hsel) g4 r.length listed a w hcl (Region.free_spec g1 h2) hr g2 g3 (anyN_of_ASeq hsel r _ _ w (closed_set hcl hr) h4 g5)
    rcases h3 j hlt with (h | h) | h
    · exact absurd h hj
    · exact .inl h
    · exact .inr h
  | (i, false) :: r, listed, a, w, hcl, hok, h => by
    simp only [okS, Bool.and_eq_true, beq_iff_eq] at hok
    obtain ⟨h1, h2⟩ := hok
    have hr : i ∈ Region.ready md ops listed := by rw [h1]; exact List.mem_singleton.2 rfl
    refine ⟨fun h0 => (by rw [h0] at h1; cases h1), fun j hj => ?_⟩
    rw [h1] at hj
    obtain rfl := List.mem_singleton.1 hj
    exact wpOp_mono (fun a' w' h' => ⟨h'.1, anyN_of_ASeq hsel r _ a' w' (closed_set hcl hr) h2 h'.2⟩) h
end

section
variable {c : Cx} {s : S} {Q : Exit → S → Prop} {ops : Array Oper} {L : List Oper} {need : Nat → Bool} {l : List (Nat × Bool)} {i : Nat} {o : Oper}

/-- First come the reads. -/
def AD1 (c : Cx) (ops : Array Oper) (Q : Exit → S → Prop) (need : Nat → Bool) (l : List (Nat × Bool)) (s : S) : Prop := ∀ g a w, Sim c g s a w → ASeq c.P ops (QQ c Q) (Below w.heap.size w) need l a w
/-- Then what makes new memory. -/
def AD2 (c : Cx) (ops : Array Oper) (Q : Exit → S → Prop) (need : Nat → Bool) (l : List (Nat × Bool)) (s : S) : Prop := ∀ W g a w, Sim c g s a w → Below W.heap.size W w → ASeq c.P ops (QQ c Q) (Below W.heap.size W) need l a w
/-- Then what writes. -/
def AD3 (c : Cx) (ops : Array Oper) (Q : Exit → S → Prop) (need : Nat → Bool) (l : List (Nat × Bool)) (s : S) : Prop := ∀ (T : World → Prop) g a w, Sim c g s a w → ASeq c.P ops (QQ c Q) T need l a w
def noP (Q : Exit → S → Prop) : Prop := ∀ ch s, Q (.panic ch) s → False
theorem QQ_noP (h : noP Q) (d : Option Tmp) (x : Value) : ∀ ch a w, QQ c Q (.panic ch) (Act.put a d x) w → QQ c Q (.panic ch) a w := fun ch a w ⟨g, s, h1, _⟩ => (h ch s h1).elim

theorem AW.draw {id : Nat} {l : List Oper} (order : List (Nat × Bool)) (need : Nat → Bool) (N : Nat) (hm : c.P.follows .mixedOrders = true) (hsel : Region.noSelect l.toArray = true) (hlen : order.length = l.length)
    (hok : okS .any l.toArray need N order (Array.replicate l.length false) = true) (h : AD1 c l.toArray Q need order s) : AW c (.region id l.toArray true) Q s := by
  intro g a w hs
  refine wp_region_any hm ?_
  have hs' : Sim c g s a w.drew := hs.move (Below.drew (Below.refl _ _))
  have := any_of_anyN _ _ _ _ (anyN_of_ASeq (P := c.P) (Q := QQ c Q) (T := Below w.drew.heap.size w.drew) (need := need) (md := .any) hsel order (Array.replicate l.length false) a w.drew (by
    intro j oj _ hl
    rw [Array.getD_eq_getD_getElem?, Array.getElem?_replicate] at hl
    split at hl <;> simp at hl) hok (h g a _ hs'))
  rw [hlen] at this
  simpa using this

theorem wpOp_of {P : Program} {Qc : Exit → Act → World → Prop} {a : Act} {w : World} {K : Act → World → Prop} (hi : ops[i]? = some o) (hg : o.guard = none) (h : o.wp P a w K Qc) : wpOp P ops Qc i K a w := by
  unfold wpOp
  simp only [hi, Region.wanted, hg, if_true]
  exact .inl h
theorem wpOp_ofy {P : Program} {Qc : Exit → Act → World → Prop} {a : Act} {w : World} {K : Act → World → Prop} (hi : ops[i]? = some o) (hw : Region.wanted o (yielded ops a.tmps) = true) (h : o.wp P a w K Qc) : wpOp P ops Qc i K a w := by
  unfold wpOp
  simp only [hi, hw, if_true]
  exact .inl h
theorem AD1.rd {v : V} (hi : L[i]? = some o) (hg : o.guard = none) (hd : dok s o = true) (hp : noP Q) (h : RD c o s v) (hN : AD1 c L.toArray Q need l (s.put o.dst v)) : AD1 c L.toArray Q need ((i, true) :: l) s := fun g a w hs => by
  obtain ⟨x, h1, h2⟩ := h g a w hs
  exact ⟨o, x, by simpa using hi, .inl ⟨by simp [Region.wanted, hg], h2⟩, Below.refl _ _, QQ_noP hp _ _, hN g _ w (hs.put o.dst (dok_spec hd) h1)⟩
theorem AD1.rp {v : V} (hi : L[i]? = some o) (hg : o.guard = none) (hd : dok s o = true) (hp : noP Q) (h : RP c o s v) (hN : AD1 c L.toArray Q need l (s.put o.dst v)) : AD1 c L.toArray Q need ((i, true) :: l) s := AD1.rd hi hg hd hp h.rd hN
theorem AD1.rdy {v : V} {j : Nat} {b : Bool} (hi : L[i]? = some o) (hg : o.guard = some (j, b)) (hy : yld L.toArray s j = some b) (hd : dok s o = true) (hp : noP Q) (h : RD c o s v) (hN : AD1 c L.toArray Q need l (s.put o.dst v)) : AD1 c L.toArray Q need ((i, true) :: l) s := fun g a w hs => by
  obtain ⟨x, h1, h2⟩ := h g a w hs
  exact ⟨o, x, by simpa using hi, .inl ⟨by simp [Region.wanted, hg, yld_spec hy hs], h2⟩, Below.refl _ _, QQ_noP hp _ _, hN g _ w (hs.put o.dst (dok_spec hd) h1)⟩
theorem AD1.rpy {v : V} {j : Nat} {b : Bool} (hi : L[i]? = some o) (hg : o.guard = some (j, b)) (hy : yld L.toArray s j = some b) (hd : dok s o = true) (hp : noP Q) (h : RP c o s v) (hN : AD1 c L.toArray Q need l (s.put o.dst v)) : AD1 c L.toArray Q need ((i, true) :: l) s := AD1.rdy hi hg hy hd hp h.rd hN
theorem AD1.no {j : Nat} {b b' : Bool} (hi : L[i]? = some o) (hg : o.guard = some (j, b)) (hy : yld L.toArray s j = some b') (hb : (b' == b) = false) (hd : dok s o = true) (hp : noP Q) (hN : AD1 c L.toArray Q need l (s.put o.dst .junk)) : AD1 c L.toArray Q need ((i, true) :: l) s := fun g a w hs =>
  ⟨o, undef, by simpa using hi, .inr ⟨by simp only [Region.wanted, hg, yld_spec hy hs]; simpa using hb, rfl⟩, Below.refl _ _, QQ_noP hp _ _, hN g _ w (hs.put o.dst (dok_spec hd) (.junk _))⟩
theorem AD1.go (h : AD2 c L.toArray Q need l s) : AD1 c L.toArray Q need l s := fun g a w hs => h w g a w hs (Below.refl _ _)
theorem AD1.nil (h : Q .normal s) : AD1 c L.toArray Q need [] s := fun g a w hs => ⟨g, s, h, hs⟩
theorem AD2.rp {v : V} (hi : L[i]? = some o) (hg : o.guard = none) (hd : dok s o = true) (hp : noP Q) (h : RP c o s v) (hN : AD2 c L.toArray Q need l (s.put o.dst v)) : AD2 c L.toArray Q need ((i, true) :: l) s := fun W g a w hs hb => by
  obtain ⟨x, h1, h2⟩ := h g a w hs
  exact ⟨o, x, by simpa using hi, .inl ⟨by simp [Region.wanted, hg], fun w' _ => h2 w'⟩, hb, QQ_noP hp _ _, hN W g _ w (hs.put o.dst (dok_spec hd) h1) hb⟩
theorem AD2.stepM (hi : L[i]? = some o) (hg : o.guard = none) (h : StepM c o s (AD2 c L.toArray Q need l)) : AD2 c L.toArray Q need ((i, false) :: l) s := fun W g a w hs hb =>
  wpOp_of (by simpa using hi) hg (h g a w hs _ _ fun g' s' a' w' h1 h2 h3 => ⟨fun _ => hb.trans (h3.mono hb.size), h1 W g' a' w' h2 (hb.trans (h3.mono hb.size))⟩)
theorem AD2.sm {X : S} (hi : L[i]? = some o) (hg : o.guard = none) (h : StepM c o s (fun s' => s' = X)) (hN : AD2 c L.toArray Q need l X) : AD2 c L.toArray Q need ((i, false) :: l) s :=
  AD2.stepM hi hg fun g a w hs K Q' hK => h g a w hs K Q' fun g' s' a' w' e h1 h2 => hK g' s' a' w' (by subst e; exact hN) h1 h2
theorem AD2.call {post : V → Prop} (hi : L[i]? = some o) (hg : o.guard = none) (h : StepM c o s (fun s' => ∃ v, post v ∧ v.pure ∧ s' = s.put o.dst v)) (hN : ∀ v, post v → v.pure → AD2 c L.toArray Q need l (s.put o.dst v)) : AD2 c L.toArray Q need ((i, false) :: l) s :=
  AD2.stepM hi hg fun g a w hs K Q' hK => h g a w hs K Q' fun g' s' a' w' ⟨v, h1, h2, e⟩ h3 h4 => hK g' s' a' w' (by subst e; exact hN v h1 h2) h3 h4
theorem AD2.rd1 {v : V} (hi : L[i]? = some o) (hg : o.guard = none) (hd : dok s o = true) (h : RD c o s v) (hN : AD2 c L.toArray Q need l (s.put o.dst v)) : AD2 c L.toArray Q need ((i, false) :: l) s :=
  AD2.stepM hi hg (h.stepM hd hN)
theorem AD2.rp1 {v : V} (hi : L[i]? = some o) (hg : o.guard = none) (hd : dok s o = true) (h : RP c o s v) (hN : AD2 c L.toArray Q need l (s.put o.dst v)) : AD2 c L.toArray Q need ((i, false) :: l) s := AD2.rd1 hi hg hd h.rd hN
theorem AD2.rpy {v : V} {j : Nat} {b : Bool} (hi : L[i]? = some o) (hg : o.guard = some (j, b)) (hy : yld L.toArray s j = some b) (hd : dok s o = true) (hp : noP Q) (h : RP c o s v) (hN : AD2 c L.toArray Q need l (s.put o.dst v)) : AD2 c L.toArray Q need ((i, true) :: l) s := fun W g a w hs hb => by
  obtain ⟨x, h1, h2⟩ := h g a w hs
  exact ⟨o, x, by simpa using hi, .inl ⟨by simp [Region.wanted, hg, yld_spec hy hs], fun w' _ => h2 w'⟩, hb, QQ_noP hp _ _, hN W g _ w (hs.put o.dst (dok_spec hd) h1) hb⟩
theorem AD2.no {j : Nat} {b b' : Bool} (hi : L[i]? = some o) (hg : o.guard = some (j, b)) (hy : yld L.toArray s j = some b') (hb' : (b' == b) = false) (hd : dok s o = true) (hp : noP Q) (hN : AD2 c L.toArray Q need l (s.put o.dst .junk)) : AD2 c L.toArray Q need ((i, true) :: l) s := fun W g a w hs hb =>
  ⟨o, undef, by simpa using hi, .inr ⟨by simp only [Region.wanted, hg, yld_spec hy hs]; simpa using hb', rfl⟩, hb, QQ_noP hp _ _, hN W g _ w (hs.put o.dst (dok_spec hd) (.junk _)) hb⟩
theorem AD2.no1 {j : Nat} {b b' : Bool} (hi : L[i]? = some o) (hg : o.guard = some (j, b)) (hy : yld L.toArray s j = some b') (hb' : (b' == b) = false) (hd : dok s o = true) (hN : AD2 c L.toArray Q need l (s.put o.dst .junk)) : AD2 c L.toArray Q need ((i, false) :: l) s := fun W g a w hs hb => by
  have hw : ¬ Region.wanted o (yielded L.toArray a.tmps) = true := by simp only [Region.wanted, hg, yld_spec hy hs]; simpa using hb'
  show wpOp c.P L.toArray (QQ c Q) i _ a w
  unfold wpOp
  simp only [List.getElem?_toArray, hi]
  rw [if_neg hw]
  exact ⟨fun _ => hb, hN W g _ w (hs.put o.dst (dok_spec hd) (.junk _)) hb⟩
theorem AD2.stepMy {j : Nat} {b : Bool} (hi : L[i]? = some o) (hg : o.guard = some (j, b)) (hy : yld L.toArray s j = some b) (h : StepM c o s (AD2 c L.toArray Q need l)) : AD2 c L.toArray Q need ((i, false) :: l) s := fun W g a w hs hb =>
  wpOp_ofy (by simpa using hi) (by simp [Region.wanted, hg, yld_spec hy hs]) (h g a w hs _ _ fun g' s' a' w' h1 h2 h3 => ⟨fun _ => hb.trans (h3.mono hb.size), h1 W g' a' w' h2 (hb.trans (h3.mono hb.size))⟩)
theorem AD2.cally {post : V → Prop} {j : Nat} {b : Bool} (hi : L[i]? = some o) (hg : o.guard = some (j, b)) (hy : yld L.toArray s j = some b) (h : StepM c o s (fun s' => ∃ v, post v ∧ v.pure ∧ s' = s.put o.dst v)) (hN : ∀ v, post v → v.pure → AD2 c L.toArray Q need l (s.put o.dst v)) : AD2 c L.toArray Q need ((i, false) :: l) s :=
  AD2.stepMy hi hg hy fun g a w hs K Q' hK => h g a w hs K Q' fun g' s' a' w' ⟨v, h1, h2, e⟩ h3 h4 => hK g' s' a' w' (by subst e; exact hN v h1 h2) h3 h4
theorem AD2.rd1y {v : V} {j : Nat} {b : Bool} (hi : L[i]? = some o) (hg : o.guard = some (j, b)) (hy : yld L.toArray s j = some b) (hd : dok s o = true) (h : RD c o s v) (hN : AD2 c L.toArray Q need l (s.put o.dst v)) : AD2 c L.toArray Q need ((i, false) :: l) s :=
  AD2.stepMy hi hg hy (h.stepM hd hN)
theorem AD2.rp1y {v : V} {j : Nat} {b : Bool} (hi : L[i]? = some o) (hg : o.guard = some (j, b)) (hy : yld L.toArray s j = some b) (hd : dok s o = true) (h : RP c o s v) (hN : AD2 c L.toArray Q need l (s.put o.dst v)) : AD2 c L.toArray Q need ((i, false) :: l) s := AD2.rd1y hi hg hy hd h.rd hN
theorem AD2.go (h : AD3 c L.toArray Q need l s) : AD2 c L.toArray Q need l s := fun W g a w hs _ => h _ g a w hs
theorem AD2.nil (h : Q .normal s) : AD2 c L.toArray Q need [] s := fun W g a w hs _ => ⟨g, s, h, hs⟩
theorem AD3.step (hi : L[i]? = some o) (hg : o.guard = none) (hn : need i = false) (h : Step c o s (AD3 c L.toArray Q need l)) : AD3 c L.toArray Q need ((i, false) :: l) s := fun T g a w hs =>
  wpOp_of (by simpa using hi) hg (h g a w hs _ _ fun g' s' a' w' h1 h2 => ⟨fun h0 => (by rw [hn] at h0; cases h0), h1 T g' a' w' h2⟩)
theorem AD3.st {X : S} (hi : L[i]? = some o) (hg : o.guard = none) (hn : need i = false) (h : Step c o s (fun s' => s' = X)) (hN : AD3 c L.toArray Q need l X) : AD3 c L.toArray Q need ((i, false) :: l) s :=
  AD3.step hi hg hn fun g a w hs K Q' hK => h g a w hs K Q' fun g' s' a' w' e h1 => hK g' s' a' w' (by subst e; exact hN) h1
theorem AD3.rd1 {v : V} (hi : L[i]? = some o) (hg : o.guard = none) (hn : need i = false) (hd : dok s o = true) (h : RD c o s v) (hN : AD3 c L.toArray Q need l (s.put o.dst v)) : AD3 c L.toArray Q need ((i, false) :: l) s :=
  AD3.step hi hg hn (h.stepM hd hN).step
theorem AD3.rp1 {v : V} (hi : L[i]? = some o) (hg : o.guard = none) (hn : need i = false) (hd : dok s o = true) (h : RP c o s v) (hN : AD3 c L.toArray Q need l (s.put o.dst v)) : AD3 c L.toArray Q need ((i, false) :: l) s := AD3.rd1 hi hg hn hd h.rd hN
theorem AD3.sm {X : S} (hi : L[i]? = some o) (hg : o.guard = none) (hn : need i = false) (h : StepM c o s (fun s' => s' = X)) (hN : AD3 c L.toArray Q need l X) : AD3 c L.toArray Q need ((i, false) :: l) s := AD3.st hi hg hn h.step hN
theorem AD3.nil (h : Q .normal s) : AD3 c L.toArray Q need [] s := fun T g a w hs => ⟨g, s, h, hs⟩
end
end Go.Proofs.Ythlcginebeapdaa
