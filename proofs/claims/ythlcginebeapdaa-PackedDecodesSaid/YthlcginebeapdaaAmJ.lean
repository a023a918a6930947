/- Drawn regions in which two operations stand ready at once (a call and a new variable): both orders are walked, and they end alike. -/
import Derived.Test.YthlcginebeapdaaAmDo
import Derived.Scope
namespace Go.Proofs.Ythlcginebeapdaa
open Go.RowKit
set_option linter.unusedSimpArgs false
set_option linter.unusedVariables false

section
variable {P : Program} {ops : Array Oper} {Q : Exit → Act → World → Prop} {md : Region.Mode} {T : World → Prop} {need : Nat → Bool}
def ASeq2 (P : Program) (ops : Array Oper) (Q : Exit → Act → World → Prop) (T : World → Prop) (need : Nat → Bool) (r1 r2 : List (Nat × Bool)) : List Nat → Act → World → Prop
  | [], a, w => ASeq P ops Q T need r1 a w ∧ ASeq P ops Q T need r2 a w
  | i :: r, a, w => ∃ oi x, ops[i]? = some oi ∧ YieldsIf P ops T oi x a ∧ T w ∧ (∀ c a w, Q (.panic c) (a.put oi.dst x) w → Q (.panic c) a w) ∧ ASeq2 P ops Q T need r1 r2 r (a.put oi.dst x) w
def okT (md : Region.Mode) (ops : Array Oper) (need : Nat → Bool) (N : Nat) (i j : Nat) (r1 r2 : List (Nat × Bool)) : List Nat → Array Bool → Bool
  | [], listed => ((Region.ready md ops listed).all fun k => k == i || k == j) && !(Region.ready md ops listed).isEmpty && (Region.ready md ops listed).contains i && (Region.ready md ops listed).contains j && okS md ops need N r1 (listed.setIfInBounds i true) && okS md ops need N r2 (listed.setIfInBounds j true)
  | k :: r, listed => (Region.ready md ops listed).contains k && Region.free md ops listed k && ((List.range ops.size).all fun j => j == k || need j || reachB md ops N j k) && okT md ops need N i j r1 r2 r (listed.setIfInBounds k true)
theorem anyN_of_ASeq2 {N i j m : Nat} {r1 r2 : List (Nat × Bool)} (hl1 : r1.length = m) (hl2 : r2.length = m) (hsel : Region.noSelect ops = true) : ∀ (l : List Nat) (listed : Array Bool) (a : Act) (w : World), closedL md ops listed → okT md ops need N i j r1 r2 l listed = true → ASeq2 P ops Q T need ((i, false) :: r1) ((j, false) :: r2) l a w → anyN P md ops Q T need (l.length + (m + 1)) listed a w
  | [], listed, a, w, hcl, hok, h => by
    simp only [okT, Bool.and_eq_true, List.all_eq_true, Bool.or_eq_true, beq_iff_eq, Bool.not_eq_true', List.isEmpty_eq_false_iff, List.contains_iff_mem] at hok
    obtain ⟨⟨⟨⟨⟨h1, h2⟩, hi⟩, hj⟩, h3⟩, h4⟩ := hok
    rw [List.length_nil, Nat.zero_add]
    refine ⟨fun h0 => absurd h0 h2, fun k hk => ?_⟩
    rcases h1 k hk with rfl | rfl
    · subst hl1
      exact wpOp_mono (fun a' w' h' => ⟨h'.1, anyN_of_ASeq hsel r1 _ a' w' (closed_set hcl hi) h3 h'.2⟩) h.1
    · subst hl2
      exact wpOp_mono (fun a' w' h' => ⟨h'.1, anyN_of_ASeq hsel r2 _ a' w' (closed_set hcl hj) h4 h'.2⟩) h.2
  | k :: r, listed, a, w, hcl, hok, h => by
    simp only [okT, Bool.and_eq_true, List.all_eq_true, List.mem_range, Bool.or_eq_true, beq_iff_eq] at hok
    obtain ⟨⟨⟨h1, h2⟩, h3⟩, h4⟩ := hok
    obtain ⟨oi, x, g1, g2, g3, g4, g5⟩ := h
    have hr : k ∈ Region.ready md ops listed := by simpa using h1
    rw [List.length_cons, show r.length + 1 + (m + 1) = (r.length + (m + 1)) + 1 by omega]
    refine anyN_early (N := N) (fun j hj hlt => ?_) g1 (Region.noSelect_spec hsel) g4 (r.length + (m + 1)) listed a w hcl (Region.free_spec g1 h2) hr g2 g3 (anyN_of_ASeq2 hl1 hl2 hsel r _ _ w (closed_set hcl hr) h4 g5)
    rcases h3 j hlt with (h | h) | h
    · exact absurd h hj
    · exact .inl h
    · exact .inr h
end
section
variable {c : Cx} {s : S} {Q : Exit → S → Prop} {ops : Array Oper} {L : List Oper} {need : Nat → Bool} {r1 r2 : List (Nat × Bool)} {l : List Nat} {i : Nat} {o : Oper}
/-- A list without what is shadowed. -/
def ddL {α : Type} : List Nat → List (Nat × α) → List (Nat × α)
  | _, [] => []
  | seen, (k, v) :: l => if seen.contains k then ddL seen l else (k, v) :: ddL (k :: seen) l
theorem ddL_get {α : Type} : ∀ (l : List (Nat × α)) (seen : List Nat) (i : Nat) (v : α), fnd (ddL seen l) i = some v → i ∉ seen ∧ fnd l i = some v
  | [], seen, i, v, h => by simp [ddL, fnd] at h
  | (k, u) :: l, seen, i, v, h => by
    simp only [ddL] at h
    split at h
    · rename_i hk
      obtain ⟨h1, h2⟩ := ddL_get l seen i v h
      refine ⟨h1, ?_⟩
      have : k ≠ i := by rintro rfl; exact h1 (by simpa using hk)
      simpa [fnd, this] using h2
    · rename_i hk
      simp only [fnd] at h ⊢
      split at h
      · rename_i e
        simp only [beq_iff_eq] at e
        subst e
        exact ⟨by simpa using hk, by simpa using h⟩
      · rename_i e
        obtain ⟨h1, h2⟩ := ddL_get l (k :: seen) i v h
        rw [if_neg e]
        exact ⟨fun hm => h1 (List.mem_cons_of_mem _ hm), h2⟩
def S.dd (s : S) : S := ⟨s.n, ddL [] s.T, ddL [] s.H, s.K⟩
theorem Less.dd (s : S) : Less s.dd s := ⟨rfl, fun i v h => ⟨v, (ddL_get _ _ _ _ h).2, .refl _⟩, fun r row h => ⟨row, (ddL_get _ _ _ _ h).2, rfl, rfl, rfl, fun j v hv => ⟨v, hv, .refl _⟩⟩, fun j v h => ⟨v, h, .refl _⟩⟩
theorem Less.refl (s : S) : Less s s := ⟨rfl, fun i v h => ⟨v, h, .refl _⟩, fun r row h => ⟨row, h, rfl, rfl, rfl, fun j v hv => ⟨v, hv, .refl _⟩⟩, fun j v h => ⟨v, h, .refl _⟩⟩
/-- Both orders end at N, or know more. -/
def QJ (N : S) : Exit → S → Prop
  | .normal, s => Less N s
  | _, _ => False
def AB1 (c : Cx) (ops : Array Oper) (Q : Exit → S → Prop) (need : Nat → Bool) (r1 r2 : List (Nat × Bool)) (l : List Nat) (s : S) : Prop := ∀ g a w, Sim c g s a w → ASeq2 c.P ops (QQ c Q) (Below w.heap.size w) need r1 r2 l a w
theorem AW.draw2 {id : Nat} {l : List Oper} {N : S} (pre : List Nat) (i j : Nat) (r1 r2 : List (Nat × Bool)) (need : Nat → Bool) (n : Nat) (hm : c.P.follows .mixedOrders = true) (hsel : Region.noSelect l.toArray = true) (hlen : pre.length + (r1.length + 1) = l.length) (hlr : r2.length = r1.length)
    (hok : okT .any l.toArray need n i j r1 r2 pre (Array.replicate l.length false) = true) (h : AB1 c l.toArray (QJ N) need ((i, false) :: r1) ((j, false) :: r2) pre s) (hN : Q .normal N) : AW c (.region id l.toArray true) Q s := by
  intro g a w hs
  refine wp_mono (Q := QQ c (QJ N)) ?_ (fun e a w hq => by
    obtain ⟨g', s', h3, h4⟩ := hq
    cases e <;> first | exact ⟨g', N, hN, h4.less h3⟩ | exact h3.elim)
  refine wp_region_any hm ?_
  have hs' : Sim c g s a w.drew := hs.move (Below.drew (Below.refl _ _))
  have h1 := any_of_anyN _ _ _ _ (anyN_of_ASeq2 (P := c.P) (Q := QQ c (QJ N)) (T := Below w.drew.heap.size w.drew) (need := need) (md := .any) (m := r1.length) rfl hlr hsel pre (Array.replicate l.length false) a w.drew (by
    intro j oj _ hl
    rw [Array.getD_eq_getD_getElem?, Array.getElem?_replicate] at hl
    split at hl <;> simp at hl) hok (h g a _ hs'))
  rw [hlen] at h1
  simpa using h1
theorem AB1.rd {v : V} (hi : L[i]? = some o) (hg : o.guard = none) (hd : dok s o = true) (hp : noP Q) (h : RD c o s v) (hN : AB1 c L.toArray Q need r1 r2 l (s.put o.dst v)) : AB1 c L.toArray Q need r1 r2 (i :: l) s := fun g a w hs => by
  obtain ⟨x, h1, h2⟩ := h g a w hs
  exact ⟨o, x, by simpa using hi, .inl ⟨by simp [Region.wanted, hg], h2⟩, Below.refl _ _, QQ_noP hp _ _, hN g _ w (hs.put o.dst (dok_spec hd) h1)⟩
theorem AB1.rp {v : V} (hi : L[i]? = some o) (hg : o.guard = none) (hd : dok s o = true) (hp : noP Q) (h : RP c o s v) (hN : AB1 c L.toArray Q need r1 r2 l (s.put o.dst v)) : AB1 c L.toArray Q need r1 r2 (i :: l) s := AB1.rd hi hg hd hp h.rd hN
theorem AB1.rdy {v : V} {j : Nat} {b : Bool} (hi : L[i]? = some o) (hg : o.guard = some (j, b)) (hy : yld L.toArray s j = some b) (hd : dok s o = true) (hp : noP Q) (h : RD c o s v) (hN : AB1 c L.toArray Q need r1 r2 l (s.put o.dst v)) : AB1 c L.toArray Q need r1 r2 (i :: l) s := fun g a w hs => by
  obtain ⟨x, h1, h2⟩ := h g a w hs
  exact ⟨o, x, by simpa using hi, .inl ⟨by simp [Region.wanted, hg, yld_spec hy hs], h2⟩, Below.refl _ _, QQ_noP hp _ _, hN g _ w (hs.put o.dst (dok_spec hd) h1)⟩
theorem AB1.rpy {v : V} {j : Nat} {b : Bool} (hi : L[i]? = some o) (hg : o.guard = some (j, b)) (hy : yld L.toArray s j = some b) (hd : dok s o = true) (hp : noP Q) (h : RP c o s v) (hN : AB1 c L.toArray Q need r1 r2 l (s.put o.dst v)) : AB1 c L.toArray Q need r1 r2 (i :: l) s := AB1.rdy hi hg hy hd hp h.rd hN
theorem AB1.no {j : Nat} {b b' : Bool} (hi : L[i]? = some o) (hg : o.guard = some (j, b)) (hy : yld L.toArray s j = some b') (hb : (b' == b) = false) (hd : dok s o = true) (hp : noP Q) (hN : AB1 c L.toArray Q need r1 r2 l (s.put o.dst .junk)) : AB1 c L.toArray Q need r1 r2 (i :: l) s := fun g a w hs =>
  ⟨o, undef, by simpa using hi, .inr ⟨by simp only [Region.wanted, hg, yld_spec hy hs]; simpa using hb, rfl⟩, Below.refl _ _, QQ_noP hp _ _, hN g _ w (hs.put o.dst (dok_spec hd) (.junk _))⟩
theorem AB1.nil (h1 : AD2 c L.toArray Q need r1 s) (h2 : AD2 c L.toArray Q need r2 s) : AB1 c L.toArray Q need r1 r2 [] s := fun g a w hs => ⟨h1 w g a w hs (Below.refl _ _), h2 w g a w hs (Below.refl _ _)⟩
/-- A new object r has been made since the region began: what is written to it harms nobody. -/
def AQ (r : Nat) (c : Cx) (ops : Array Oper) (Q : Exit → S → Prop) (need : Nat → Bool) (l : List (Nat × Bool)) (s : S) : Prop := ∀ W g a w, Sim c g s a w → Below W.heap.size W w → W.heap.size ≤ (g r).1 → ASeq c.P ops (QQ c Q) (Below W.heap.size W) need l a w
variable {l : List (Nat × Bool)} {r : Nat}
theorem AD2.new {r : Nat} {X : S} (hi : L[i]? = some o) (hg : o.guard = none) (h : StepG c o s r (fun s' => s' = X)) (hN : AQ r c L.toArray Q need l X) : AD2 c L.toArray Q need ((i, false) :: l) s := fun W g a w hs hb =>
  wpOp_of (by simpa using hi) hg (h g a w hs _ _ fun g' s' a' w' h1 h2 h3 _ h5 => by
    subst h1
    have hb' := hb.trans (h3.mono hb.size)
    exact ⟨fun _ => hb', hN W g' a' w' h2 hb' (Nat.le_trans hb.size h5)⟩)
theorem AQ.stepK (hi : L[i]? = some o) (hg : o.guard = none) (h : StepK c o s (AQ r c L.toArray Q need l)) : AQ r c L.toArray Q need ((i, false) :: l) s := fun W g a w hs hb hr =>
  wpOp_of (by simpa using hi) hg (h g a w hs _ _ fun s' a' w' h1 h2 h3 => ⟨fun _ => hb.trans (h3.mono hb.size), h1 W g a' w' h2 (hb.trans (h3.mono hb.size)) hr⟩)
theorem AQ.stepKy {j : Nat} {b : Bool} (hi : L[i]? = some o) (hg : o.guard = some (j, b)) (hy : yld L.toArray s j = some b) (h : StepK c o s (AQ r c L.toArray Q need l)) : AQ r c L.toArray Q need ((i, false) :: l) s := fun W g a w hs hb hr =>
  wpOp_ofy (by simpa using hi) (by simp [Region.wanted, hg, yld_spec hy hs]) (h g a w hs _ _ fun s' a' w' h1 h2 h3 => ⟨fun _ => hb.trans (h3.mono hb.size), h1 W g a' w' h2 (hb.trans (h3.mono hb.size)) hr⟩)
theorem AQ.call {post : V → Prop} (hi : L[i]? = some o) (hg : o.guard = none) (h : StepK c o s (fun s' => ∃ v, post v ∧ v.pure ∧ s' = s.put o.dst v)) (hN : ∀ v, post v → v.pure → AQ r c L.toArray Q need l (s.put o.dst v)) : AQ r c L.toArray Q need ((i, false) :: l) s :=
  AQ.stepK hi hg fun g a w hs K Q' hK => h g a w hs K Q' fun s' a' w' ⟨v, h1, h2, e⟩ h3 h4 => hK s' a' w' (by subst e; exact hN v h1 h2) h3 h4
theorem AQ.rd1 {v : V} (hi : L[i]? = some o) (hg : o.guard = none) (hd : dok s o = true) (h : RD c o s v) (hN : AQ r c L.toArray Q need l (s.put o.dst v)) : AQ r c L.toArray Q need ((i, false) :: l) s := AQ.stepK hi hg (h.stepK hd hN)
theorem AQ.rp1 {v : V} (hi : L[i]? = some o) (hg : o.guard = none) (hd : dok s o = true) (h : RP c o s v) (hN : AQ r c L.toArray Q need l (s.put o.dst v)) : AQ r c L.toArray Q need ((i, false) :: l) s := AQ.rd1 hi hg hd h.rd hN
theorem AQ.rp {v : V} (hi : L[i]? = some o) (hg : o.guard = none) (hd : dok s o = true) (hp : noP Q) (h : RP c o s v) (hN : AQ r c L.toArray Q need l (s.put o.dst v)) : AQ r c L.toArray Q need ((i, true) :: l) s := fun W g a w hs hb hr => by
  obtain ⟨x, h1, h2⟩ := h g a w hs
  exact ⟨o, x, by simpa using hi, .inl ⟨by simp [Region.wanted, hg], fun w' _ => h2 w'⟩, hb, QQ_noP hp _ _, hN W g _ w (hs.put o.dst (dok_spec hd) h1) hb hr⟩
theorem AQ.st {row row' : Row} (hi : L[i]? = some o) (hg : o.guard = none) (h : StepS c o s r row' ∧ row.nil = false ∧ fnd s.H r = some row) (hN : AQ r c L.toArray Q need l { s with H := (r, row') :: s.H }) : AQ r c L.toArray Q need ((i, false) :: l) s := fun W g a w hs hb hr =>
  wpOp_of (by simpa using hi) hg (h.1 g a w hs _ _ fun a' w' h2 h3 => by
    have hb' : Below W.heap.size W w' := ⟨by rw [← hb.os, h2.below.os, hs.below.os], by rw [← hb.tape, h2.below.tape, hs.below.tape], by rw [← hb.output, h2.below.output, hs.below.output], by rw [h3.1]; exact hb.size, fun k hk => (h3.2 k (by omega)).trans (hb.block k hk)⟩
    exact ⟨fun _ => hb', hN W g a' w' h2 hb' hr⟩)
theorem AQ.nil (h : Q .normal s) : AQ r c L.toArray Q need [] s := fun W g a w hs _ _ => ⟨g, s, h, hs⟩
theorem sg_alloc (r : Nat) {e : TypeId} {sz bt : Nat} {z : Value} (hi : Inf c.P e sz bt z) (ho : o.op = .alloc e) (hr : s.clean r = true) (hd : dok s o = true) {l : List V} (hl : z.cells.toList.map (fun y => V.d (.p y)) = l) : StepG c o s r (fun s' => s' = s.newObj r ⟨e, l, false, 0⟩ o.dst (.ref r 0)) :=
  sm_newG (cap := 0) hr rfl (by subst hl; simp [V.hasL_false, V.has]) hd (fun g a w hs => by
    subst hl
    refine ⟨z.cells, .pointer (some ⟨w.heap.size, 0, none⟩), fun h => absurd rfl h, ?_, fun j u hu => ?_, .ref _ _⟩
    · simp [execOp, ho, Instr.alloc, run_zeroValue hi, newVar, newRow]
    · simp only [List.getElem?_map] at hu
      cases hz : z.cells.toList[j]? with
      | none => rw [hz] at hu; cases hu
      | some y =>
        rw [hz] at hu
        simp only [Option.map_some, Option.some.injEq] at hu
        subst hu
        exact ⟨y, by simpa using hz, .d _ _ (.p _)⟩) ⟨0, .inl rfl⟩
theorem AD2.noV1 {j : Nat} {b b' : Bool} (hi : L[i]? = some o) (hg : o.guard = some (j, b)) (hy : yld L.toArray s j = some b') (hb' : (b' == b) = false) (hd : dok s o = true) (hN : AD2 c L.toArray Q need l (s.put o.dst (.d (.p undef)))) : AD2 c L.toArray Q need ((i, false) :: l) s := fun W g a w hs hb => by
  have hw' : ¬ Region.wanted o (yielded L.toArray a.tmps) = true := by rw [not_wanted hg hy hb' g a w hs]; simp
  show wpOp c.P L.toArray (QQ c Q) i _ a w
  unfold wpOp
  simp only [List.getElem?_toArray, hi]
  rw [if_neg hw']
  exact ⟨fun _ => hb, hN W g _ w (hs.put o.dst (dok_spec hd) (.d _ _ (.p _))) hb⟩
theorem AD2.noU1 {j : Nat} {b : Bool} (hi : L[i]? = some o) (hg : o.guard = some (j, b)) (hy : und L.toArray s j) (hd : dok s o = true) (hN : AD2 c L.toArray Q need l (s.put o.dst (.d (.p undef)))) : AD2 c L.toArray Q need ((i, false) :: l) s := fun W g a w hs hb => by
  have hw' : ¬ Region.wanted o (yielded L.toArray a.tmps) = true := by rw [not_wantedU hg hy g a w hs]; simp
  show wpOp c.P L.toArray (QQ c Q) i _ a w
  unfold wpOp
  simp only [List.getElem?_toArray, hi]
  rw [if_neg hw']
  exact ⟨fun _ => hb, hN W g _ w (hs.put o.dst (dok_spec hd) (.d _ _ (.p _))) hb⟩
/-- No way out by a goto. -/
def noG (Q : Exit → S → Prop) : Exit → S → Prop
  | .goto _, _ => False
  | e, s => Q e s
theorem AW.scope {x : Code} (h : AW c x (noG Q) s) : AW c (.scope x) Q s := fun g a w hs => wp_scope_straight (wp_mono (h g a w hs) fun e a' w' hq => by
  obtain ⟨g', s', h1, h2⟩ := hq
  cases e <;> first | exact h1.elim | exact ⟨g', s', h1, h2⟩)
theorem AW.label {n : Nat} (h : Q .normal s) : AW c (.label n) Q s := fun g a w hs => wp_label ⟨g, s, h, hs⟩
end
end Go.Proofs.Ythlcginebeapdaa
