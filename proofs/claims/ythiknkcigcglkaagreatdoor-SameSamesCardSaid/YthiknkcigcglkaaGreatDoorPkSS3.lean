/- Part 3 of what the law SameSames rests on. -/
import Derived.Test.YthiknkcigcglkaaGreatDoorPkSS2
namespace Go.Proofs.YthiknkcigcglkaaGreatDoor
open Go.RowKit
open Go.Proofs.Tryz
open Bool (and_eq_true)
open List (all_eq_true append_nil ext_getElem? flatMap_cons length_map map_cons map_nil map_toArray mem_cons_of_mem mem_cons_self mem_of_getElem? nil_append not_mem_nil take_of_length_le)
open Nat (le_refl lt_of_lt_of_le succ_mul zero_add)
open Option (map_some)
set_option linter.unusedSimpArgs false
set_option linter.unusedVariables false
set_option maxRecDepth 100000
set_option maxHeartbeats 8000000
variable {listed : Array Bool} {N bt bt' id k n r sz t : Nat} {z : Value} {K : Act → World → Prop} {X s' : S} {f : FuncId} {row row0 : Row} {n' : Int} {kd : IntKind} {fx y : Operand} {code : Code} {rs : List ResultVar}
theorem zz : Inf Tryz.prog 3 1 8 (Value.int IntKind.i64 0) := by unfold Inf; kernel_rfl
theorem qa1 : Inf Tryz.prog 4 1 1 (Value.bool false) := by unfold Inf; kernel_rfl
theorem jb2 : Inf Tryz.prog 5 1 1 (Value.int IntKind.u8 0) := by unfold Inf; kernel_rfl
theorem qo6 : Inf Tryz.prog 22 1 24 (Value.slice none 0 0) := by unfold Inf; kernel_rfl
theorem xN : Inf Tryz.prog 24 2 32 (.agg #[Value.int IntKind.i64 0, Value.slice none 0 0]) := by unfold Inf; kernel_rfl
theorem jb3 : gp prog 24 [(0, 1), (1, 1)] := ⟨_, underlying24, by kernel_rfl⟩
theorem qo7 : Inf Tryz.prog 33 1 24 (Value.slice none 0 0) := by unfold Inf; kernel_rfl
theorem xD : Inf Tryz.prog 35 2 32 (.agg #[Value.int IntKind.i64 0, Value.slice none 0 0]) := by unfold Inf; kernel_rfl
theorem qa2 : gp prog 35 [(0, 1), (1, 1)] := ⟨_, underlying35, by kernel_rfl⟩
theorem q80 : Inf Tryz.prog 37 5 5 (.agg #[Value.bool false, Value.bool false, Value.bool false, Value.bool false, Value.bool false]) := by unfold Inf; kernel_rfl
theorem jK5 : gp prog 37 [(0, 1), (1, 1), (2, 1), (3, 1), (4, 1)] := ⟨_, underlying37, by kernel_rfl⟩
theorem u9 : Inf Tryz.prog 42 1 24 (Value.slice none 0 0) := by unfold Inf; kernel_rfl
theorem zO : Inf Tryz.prog 47 4 32 (.agg #[Value.int IntKind.i64 0, Value.int IntKind.i64 0, Value.int IntKind.i64 0, Value.int IntKind.i64 0]) := by unfold Inf; kernel_rfl
theorem qs0 : gp prog 47 [(0, 1), (1, 1), (2, 1), (3, 1)] := ⟨_, underlying47, by kernel_rfl⟩
theorem q42 : Inf Tryz.prog 51 1 24 (Value.slice none 0 0) := by unfold Inf; kernel_rfl
theorem gZ : Inf Tryz.prog 53 3 40 (.agg #[Value.int IntKind.i64 0, Value.slice none 0 0, Value.int IntKind.i64 0]) := by unfold Inf; kernel_rfl
theorem jK6 : gp prog 53 [(0, 2), (2, 1)] := ⟨_, underlying53, by kernel_rfl⟩
theorem qw5 : Inf Tryz.prog 62 2 16 (.agg #[Value.int IntKind.i64 0, Value.int IntKind.i64 0]) := by unfold Inf; kernel_rfl
theorem qw6 : Inf Tryz.prog 75 1 8 (.agg #[Value.int IntKind.i64 0]) := by unfold Inf; kernel_rfl
theorem jb4 : Inf Tryz.prog 84 1 24 (Value.slice none 0 0) := by unfold Inf; kernel_rfl
theorem q13 : Inf Tryz.prog 102 1 24 (Value.slice none 0 0) := by unfold Inf; kernel_rfl
theorem q14 : Inf Tryz.prog 104 2 16 (.agg #[Value.int IntKind.i64 0, Value.int IntKind.i64 0]) := by unfold Inf; kernel_rfl
theorem jB4 : gp prog 104 [(0, 1), (1, 1)] := ⟨_, underlying104, by kernel_rfl⟩
theorem jh6 : Inf Tryz.prog 111 1 8 (Value.pointer none) := by unfold Inf; kernel_rfl
theorem qP1 : Inf Tryz.prog 112 1 24 (Value.slice none 0 0) := by unfold Inf; kernel_rfl
theorem qk4 : Inf Tryz.prog 114 2 32 (.agg #[Value.pointer none, Value.slice none 0 0]) := by unfold Inf; kernel_rfl
theorem qw7 : Inf Tryz.prog 134 3 24 (.agg #[Value.int IntKind.i64 0, Value.int IntKind.i64 0, Value.int IntKind.i64 0]) := by unfold Inf; kernel_rfl
theorem q15 : Inf Tryz.prog 137 2 16 (.agg #[Value.int IntKind.i64 0, Value.int IntKind.i64 0]) := by unfold Inf; kernel_rfl
theorem jB5 : gp prog 137 [(0, 1), (1, 1)] := ⟨_, underlying137, by kernel_rfl⟩
theorem qw8 : Inf Tryz.prog 139 1 24 (Value.slice none 0 0) := by unfold Inf; kernel_rfl
theorem qc2 : Inf Tryz.prog 140 1 8 (.agg #[Value.int IntKind.i64 0]) := by unfold Inf; kernel_rfl
theorem jW3 : gp prog 140 [(0, 1)] := ⟨_, underlying140, by kernel_rfl⟩
theorem q58 : Inf Tryz.prog 147 2 16 (.agg #[Value.int IntKind.i64 0, Value.int IntKind.i64 0]) := by unfold Inf; kernel_rfl
theorem jW4 : gp prog 147 [(0, 1), (1, 1)] := ⟨_, underlying147, by kernel_rfl⟩
theorem yr : Inf Tryz.prog 152 1 8 (Value.map none) := by unfold Inf; kernel_rfl
section
variable {P : Program} {ops : Array Oper} {Q : Exit → Act → World → Prop} {md : Region.Mode} {T : World → Prop} {need : Nat → Bool}
def uE (md : Region.Mode) (ops : Array Oper) (listed : Array Bool) : Prop := ∀ (j : Nat) (oj : Oper), ops[j]? = some oj → listed.getD j false = true → ∀ e ∈ oj.after, Region.binds md e = true → listed.getD e.on false = true
def uZ (md : Region.Mode) (ops : Array Oper) : Nat → Nat → Nat → Bool
  | 0, _, _ => false
  | n + 1, z, i =>
    match ops[z]? with
    | some oz => oz.after.any fun e => Region.binds md e && (e.on == i || uZ md ops n e.on i)
    | none => false
theorem qk5 {listed : Array Bool} (hc : uE md ops listed) {i : Nat} : ∀ (n z : Nat), uZ md ops n z i = true → listed.getD z false = true → listed.getD i false = true
  | 0, z, h, _ => by simp [uZ] at h
  | n + 1, z, h, hz => by
    simp only [uZ] at h
    split at h
    · rename_i oz ho
      obtain ⟨e, he, hb⟩ := Array.any_eq_true'.1 h; simp only [and_eq_true, Bool.or_eq_true, beq_iff_eq] at hb; have h1 := hc z oz ho hz e he hb.1
      rcases hb.2 with h2 | h2
      · rw [← h2]; exact h1
      · exact qk5 hc n e.on h2 h1
    · cases h
theorem qq5 (hc : uE md ops listed) {z i : Nat} (h : uZ md ops n z i = true) (hr : z ∈ Region.ready md ops listed) : listed.getD i false = true := by
  obtain ⟨_, oz, ho, hd⟩ := mem_ready.1 hr
  cases n with
  | zero => simp [uZ] at h
  | succ n =>
    simp only [uZ, ho] at h; obtain ⟨e, he, hb⟩ := Array.any_eq_true'.1 h; simp only [and_eq_true, Bool.or_eq_true, beq_iff_eq] at hb; have h1 := hd e he hb.1
    rcases hb.2 with h2 | h2
    · rw [← h2]; exact h1
    · exact qk5 hc n e.on h2 h1
theorem qj6 {i : Nat} (h : listed.getD k false = true) : (listed.setIfInBounds i true).getD k false = true := by
  rw [Array.getD_eq_getD_getElem?] at h ⊢; rw [Array.getElem?_setIfInBounds]
  split
  · grind
  · exact h
theorem wx (hc : uE md ops listed) {i : Nat} (hr : i ∈ Region.ready md ops listed) : uE md ops (listed.setIfInBounds i true) := by
  intro j oj hj hl e he hb
  by_cases hji : j = i
  · subst hji
    obtain ⟨_, oz, ho, hd⟩ := mem_ready.1 hr; rw [ho] at hj; simp only [Option.some.injEq] at hj; subst hj; exact qj6 (hd e he hb)
  · refine qj6 (hc j oj hj ?_ e he hb)
    rw [Array.getD_eq_getD_getElem?, Array.getElem?_setIfInBounds_ne (Ne.symm hji)] at hl; rw [Array.getD_eq_getD_getElem?]; exact hl
def qs1 (P : Program) (md : Region.Mode) (ops : Array Oper) (Q : Exit → Act → World → Prop) (T : World → Prop) (need : Nat → Bool) : Nat → Array Bool → Act → World → Prop
  | 0, listed, a, w => Region.ready md ops listed = [] ∧ Q .normal a w
  | n + 1, listed, a, w => (Region.ready md ops listed = [] → Q .normal a w) ∧
      ∀ i ∈ Region.ready md ops listed, wpOp P ops Q i (fun a' w' => (need i = true → T w') ∧ qs1 P md ops Q T need n (listed.setIfInBounds i true) a' w') a w
theorem q08 : ∀ (n : Nat) (listed : Array Bool) (a : Act) (w : World), qs1 P md ops Q T need n listed a w → wpAny P md ops Q n listed a w
  | 0, _, _, _, h => h
  | n + 1, _, _, _, h => ⟨h.1, fun i hi => wpOp_mono (fun a' w' h' => q08 n _ a' w' h'.2) (h.2 i hi)⟩
theorem q43 {i : Nat} {oi : Oper} {v : Value} (hz : ∀ j, j ≠ i → j < ops.size → need j = true ∨ uZ md ops N j i = true) (hi : ops[i]? = some oi) (yg : ∀ (j : Nat) (o : Oper) cs b, ops[j]? = some o → o.op ≠ .select cs b)
    (hQ : ∀ c a w, Q (.panic c) (a.put oi.dst v) w → Q (.panic c) a w) (n : Nat) :
    ∀ (listed : Array Bool) (a : Act) (w : World), uE md ops listed →
      (∀ j oj, ops[j]? = some oj → j ≠ i → listed.getD j true = false → (∀ e ∈ oj.after, Region.binds md e = true → e.on ≠ i) → oi.apart ops oj = true) →
      i ∈ Region.ready md ops listed → YieldsIf P ops T oi v a → T w →
      qs1 P md ops Q T need n (listed.setIfInBounds i true) (a.put oi.dst v) w → qs1 P md ops Q T need (n + 1) listed a w := by
  induction n with
  | zero =>
    intro listed a w xM gV hr hy hS H; refine ⟨fun h => by rw [h] at hr; exact absurd hr not_mem_nil, fun j hj => ?_⟩
    by_cases hji : j = i
    · subst hji
      exact hy.wpOp hi hS ⟨fun _ => hS, H⟩
    · have hm := ready_mono hj hji
      rw [H.1] at hm; exact absurd hm not_mem_nil
  | succ n ih =>
    intro listed a w xM gV hr hy hS H; refine ⟨fun h => by rw [h] at hr; exact absurd hr not_mem_nil, fun j hj => ?_⟩
    by_cases hji : j = i
    · subst hji
      exact hy.wpOp hi hS ⟨fun _ => hS, H⟩
    · have hij : i ≠ j := fun h => hji h.symm
      have wO := H.2 j (ready_mono hj hji); obtain ⟨vJ, oj, hoj, yS⟩ := mem_ready.1 hj; have vr := (mem_ready.1 hr).1; have k38 : listed.getD i false = false := by grind
      have vO : ∀ e ∈ oj.after, Region.binds md e = true → e.on ≠ i := by grind
      have hnj : need j = true := by grind [Array.getElem?_eq_some_iff, qq5]
      have yT := wpOp_putIf hoj (gV j oj hoj hji vJ vO) (fun cs b => yg i oi cs b hi) (fun cs b => yg j oj cs b hoj) hQ hy wO
      refine wpOp_mono (fun a' w' h3 => ?_) yT; obtain ⟨hy', hS', jB1⟩ := h3; refine ⟨fun _ => hS' hnj, ih _ a' w' (wx xM hj) ?_ (ready_mono hr hij) hy' (hS' hnj) ?_⟩
      · intro k ok hk hki hkl xU
        refine gV k ok hk hki ?_ xU
        by_cases hjk : j = k
        · subst hjk
          exact vJ
        · rwa [getD_set_ne true hjk] at hkl
      · grind [Array.setIfInBounds_comm]
def q31 (P : Program) (ops : Array Oper) (Q : Exit → Act → World → Prop) (T : World → Prop) (need : Nat → Bool) : List (Nat × Bool) → Act → World → Prop
  | [], a, w => Q .normal a w
  | (i, true) :: r, a, w => ∃ oi x, ops[i]? = some oi ∧ YieldsIf P ops T oi x a ∧ T w ∧ (∀ c a w, Q (.panic c) (a.put oi.dst x) w → Q (.panic c) a w) ∧ q31 P ops Q T need r (a.put oi.dst x) w
  | (i, false) :: r, a, w => wpOp P ops Q i (fun a' w' => (need i = true → T w') ∧ q31 P ops Q T need r a' w') a w
def okS (md : Region.Mode) (ops : Array Oper) (need : Nat → Bool) (N : Nat) : List (Nat × Bool) → Array Bool → Bool
  | [], listed => (Region.ready md ops listed).isEmpty
  | (i, true) :: r, listed => (Region.ready md ops listed).contains i && Region.free md ops listed i && ((List.range ops.size).all fun j => j == i || need j || uZ md ops N j i) && okS md ops need N r (listed.setIfInBounds i true)
  | (i, false) :: r, listed => (Region.ready md ops listed == [i]) && okS md ops need N r (listed.setIfInBounds i true)
theorem ba {N : Nat} (yg : Region.noSelect ops = true) : ∀ (l : List (Nat × Bool)) (listed : Array Bool) (a : Act) (w : World), uE md ops listed → okS md ops need N l listed = true → q31 P ops Q T need l a w → qs1 P md ops Q T need l.length listed a w
  | [], listed, a, w, _, x6, h => ⟨by simpa [okS] using x6, h⟩
  | (i, true) :: r, listed, a, w, xM, x6, h => by
    simp only [okS, and_eq_true, all_eq_true, List.mem_range, Bool.or_eq_true, beq_iff_eq] at x6; obtain ⟨⟨⟨h1, h2⟩, h3⟩, h4⟩ := x6; obtain ⟨oi, x, g1, g2, g3, g4, g5⟩ := h; have hr : i ∈ Region.ready md ops listed := by simpa using h1
    refine q43 (N := N) (fun j hj zk => ?_) g1 (Region.noSelect_spec yg) g4 r.length listed a w xM (Region.free_spec g1 h2) hr g2 g3 (ba yg r _ _ w (wx xM hr) h4 g5)
    rcases h3 j zk with (h | h) | h
    · exact absurd h hj
    · exact .inl h
    · exact .inr h
  | (i, false) :: r, listed, a, w, xM, x6, h => by
    simp only [okS, and_eq_true, beq_iff_eq] at x6; obtain ⟨h1, h2⟩ := x6; have hr : i ∈ Region.ready md ops listed := by rw [h1]; exact List.mem_singleton.2 rfl
    refine ⟨fun h0 => (by rw [h0] at h1; cases h1), fun j hj => ?_⟩; rw [h1] at hj; obtain rfl := List.mem_singleton.1 hj
    exact wpOp_mono (fun a' w' h' => ⟨h'.1, ba yg r _ a' w' (wx xM hr) h2 h'.2⟩) h
end
section
variable {c : Cx} {s : S} {Q : Exit → S → Prop} {ops : Array Oper} {L : List Oper} {need : Nat → Bool} {l : List (Nat × Bool)} {i : Nat} {o : Oper}
def AD1 (c : Cx) (ops : Array Oper) (Q : Exit → S → Prop) (need : Nat → Bool) (l : List (Nat × Bool)) (s : S) : Prop := ∀ g a w, Sim c g s a w → q31 c.P ops (QQ c Q) (Below w.heap.size w) need l a w
def AD2 (c : Cx) (ops : Array Oper) (Q : Exit → S → Prop) (need : Nat → Bool) (l : List (Nat × Bool)) (s : S) : Prop := ∀ W g a w, Sim c g s a w → Below W.heap.size W w → q31 c.P ops (QQ c Q) (Below W.heap.size W) need l a w
def AD3 (c : Cx) (ops : Array Oper) (Q : Exit → S → Prop) (need : Nat → Bool) (l : List (Nat × Bool)) (s : S) : Prop := ∀ (T : World → Prop) g a w, Sim c g s a w → q31 c.P ops (QQ c Q) T need l a w
def noP (Q : Exit → S → Prop) : Prop := ∀ ch s, Q (.panic ch) s → False
theorem yu (h : noP Q) (d : Option Tmp) (x : Value) : ∀ ch a w, QQ c Q (.panic ch) (Act.put a d x) w → QQ c Q (.panic ch) a w := fun ch a w ⟨g, s, h1, _⟩ => (h ch s h1).elim
theorem qi {id : Nat} {l : List Oper} (order : List (Nat × Bool)) (need : Nat → Bool) (N : Nat) (hm : c.P.follows .mixedOrders = true) (yg : Region.noSelect l.toArray = true) (zI : order.length = l.length)
    (x6 : okS .any l.toArray need N order (Array.replicate l.length false) = true) (h : AD1 c l.toArray Q need order s) : AW c (.region id l.toArray true) Q s := by
  intro g a w hs; refine wp_region_any hm ?_; have hs' : Sim c g s a w.drew := hs.move (Below.drew (Below.refl _ _))
  have := q08 _ _ _ _ (ba (P := c.P) (Q := QQ c Q) (T := Below w.drew.heap.size w.drew) (need := need) (md := .any) yg order (Array.replicate l.length false) a w.drew (by
    intro j oj _ hl; rw [Array.getD_eq_getD_getElem?, Array.getElem?_replicate] at hl
    split at hl <;> simp at hl) x6 (h g a _ hs'))
  rw [zI] at this
  simpa using this
theorem u6 {P : Program} {Qc : Exit → Act → World → Prop} {a : Act} {w : World} (hi : ops[i]? = some o) (hg : o.guard = none) (h : o.wp P a w K Qc) : wpOp P ops Qc i K a w := by
  unfold wpOp; simp only [hi, Region.wanted, hg, if_true]; exact .inl h
theorem qP2 {P : Program} {Qc : Exit → Act → World → Prop} {a : Act} {w : World} (hi : ops[i]? = some o) (hw : Region.wanted o (yielded ops a.tmps) = true) (h : o.wp P a w K Qc) : wpOp P ops Qc i K a w := by
  unfold wpOp; simp only [hi, hw, if_true]; exact .inl h
theorem AD1.rd {v : V} (hi : L[i]? = some o) (hg : o.guard = none) (hd : dok s o = true) (hp : noP Q) (h : RD c o s v) (hN : AD1 c L.toArray Q need l (s.put o.dst v)) : AD1 c L.toArray Q need ((i, true) :: l) s := fun g a w hs => by
  obtain ⟨x, h1, h2⟩ := h g a w hs; exact ⟨o, x, by simpa using hi, .inl ⟨by simp [Region.wanted, hg], h2⟩, Below.refl _ _, yu hp _ _, hN g _ w (hs.put o.dst (zJ hd) h1)⟩
theorem qw {v : V} (hi : L[i]? = some o) (hg : o.guard = none) (hd : dok s o = true) (hp : noP Q) (h : RP c o s v) (hN : AD1 c L.toArray Q need l (s.put o.dst v)) : AD1 c L.toArray Q need ((i, true) :: l) s := AD1.rd hi hg hd hp h.rd hN
theorem qu {v : V} {j : Nat} {b : Bool} (hi : L[i]? = some o) (hg : o.guard = some (j, b)) (hy : yld L.toArray s j = some b) (hd : dok s o = true) (hp : noP Q) (h : RD c o s v) (hN : AD1 c L.toArray Q need l (s.put o.dst v)) : AD1 c L.toArray Q need ((i, true) :: l) s := fun g a w hs => by
  obtain ⟨x, h1, h2⟩ := h g a w hs; exact ⟨o, x, by simpa using hi, .inl ⟨by simp [Region.wanted, hg, yn hy hs], h2⟩, Below.refl _ _, yu hp _ _, hN g _ w (hs.put o.dst (zJ hd) h1)⟩
theorem qE {v : V} {j : Nat} {b : Bool} (hi : L[i]? = some o) (hg : o.guard = some (j, b)) (hy : yld L.toArray s j = some b) (hd : dok s o = true) (hp : noP Q) (h : RP c o s v) (hN : AD1 c L.toArray Q need l (s.put o.dst v)) : AD1 c L.toArray Q need ((i, true) :: l) s := qu hi hg hy hd hp h.rd hN
theorem jH {j : Nat} {b b' : Bool} (hi : L[i]? = some o) (hg : o.guard = some (j, b)) (hy : yld L.toArray s j = some b') (hb : (b' == b) = false) (hd : dok s o = true) (hp : noP Q) (hN : AD1 c L.toArray Q need l (s.put o.dst .junk)) : AD1 c L.toArray Q need ((i, true) :: l) s := fun g a w hs =>
  ⟨o, undef, by simpa using hi, .inr ⟨by simp only [Region.wanted, hg, yn hy hs]; simpa using hb, rfl⟩, Below.refl _ _, yu hp _ _, hN g _ w (hs.put o.dst (zJ hd) (.junk _))⟩
theorem qm (h : AD2 c L.toArray Q need l s) : AD1 c L.toArray Q need l s := fun g a w hs => h w g a w hs (Below.refl _ _)
theorem qV (h : Q .normal s) : AD1 c L.toArray Q need [] s := fun g a w hs => ⟨g, s, h, hs⟩
theorem jv {v : V} (hi : L[i]? = some o) (hg : o.guard = none) (hd : dok s o = true) (hp : noP Q) (h : RP c o s v) (hN : AD2 c L.toArray Q need l (s.put o.dst v)) : AD2 c L.toArray Q need ((i, true) :: l) s := fun W g a w hs hb => by
  obtain ⟨x, h1, h2⟩ := h g a w hs
  exact ⟨o, x, by simpa using hi, .inl ⟨by simp [Region.wanted, hg], fun w' _ => h2 w'⟩, hb, yu hp _ _, hN W g _ w (hs.put o.dst (zJ hd) h1) hb⟩
theorem qZ (hi : L[i]? = some o) (hg : o.guard = none) (h : StepM c o s (AD2 c L.toArray Q need l)) : AD2 c L.toArray Q need ((i, false) :: l) s := fun W g a w hs hb =>
  u6 (by simpa using hi) hg (h g a w hs _ _ fun g' s' a' w' h1 h2 h3 => ⟨fun _ => hb.trans (h3.mono hb.size), h1 W g' a' w' h2 (hb.trans (h3.mono hb.size))⟩)
theorem qI (hi : L[i]? = some o) (hg : o.guard = none) (h : StepM c o s (fun s' => s' = X)) (hN : AD2 c L.toArray Q need l X) : AD2 c L.toArray Q need ((i, false) :: l) s :=
  qZ hi hg fun g a w hs K Q' hK => h g a w hs K Q' fun g' s' a' w' e h1 h2 => hK g' s' a' w' (by subst e; exact hN) h1 h2
theorem qJ {post : V → Prop} (hi : L[i]? = some o) (hg : o.guard = none) (h : StepM c o s (fun s' => ∃ v, post v ∧ v.pure ∧ s' = s.put o.dst v)) (hN : ∀ v, post v → v.pure → AD2 c L.toArray Q need l (s.put o.dst v)) : AD2 c L.toArray Q need ((i, false) :: l) s :=
  qZ hi hg fun g a w hs K Q' hK => h g a w hs K Q' fun g' s' a' w' ⟨v, h1, h2, e⟩ h3 h4 => hK g' s' a' w' (by subst e; exact hN v h1 h2) h3 h4
theorem jI {v : V} (hi : L[i]? = some o) (hg : o.guard = none) (hd : dok s o = true) (h : RD c o s v) (hN : AD2 c L.toArray Q need l (s.put o.dst v)) : AD2 c L.toArray Q need ((i, false) :: l) s :=
  qZ hi hg (h.stepM hd hN)
theorem qK {v : V} (hi : L[i]? = some o) (hg : o.guard = none) (hd : dok s o = true) (h : RP c o s v) (hN : AD2 c L.toArray Q need l (s.put o.dst v)) : AD2 c L.toArray Q need ((i, false) :: l) s := jI hi hg hd h.rd hN
theorem jJ {j : Nat} {b b' : Bool} (hi : L[i]? = some o) (hg : o.guard = some (j, b)) (hy : yld L.toArray s j = some b') (hb' : (b' == b) = false) (hd : dok s o = true) (hN : AD2 c L.toArray Q need l (s.put o.dst .junk)) : AD2 c L.toArray Q need ((i, false) :: l) s := fun W g a w hs hb => by
  have hw : ¬ Region.wanted o (yielded L.toArray a.tmps) = true := by simp only [Region.wanted, hg, yn hy hs]; simpa using hb'
  show wpOp c.P L.toArray (QQ c Q) i _ a w
  unfold wpOp; simp only [List.getElem?_toArray, hi]; rw [if_neg hw]
  exact ⟨fun _ => hb, hN W g _ w (hs.put o.dst (zJ hd) (.junk _)) hb⟩
theorem jw {j : Nat} {b : Bool} (hi : L[i]? = some o) (hg : o.guard = some (j, b)) (hy : yld L.toArray s j = some b) (h : StepM c o s (AD2 c L.toArray Q need l)) : AD2 c L.toArray Q need ((i, false) :: l) s := fun W g a w hs hb =>
  qP2 (by simpa using hi) (by simp [Region.wanted, hg, yn hy hs]) (h g a w hs _ _ fun g' s' a' w' h1 h2 h3 => ⟨fun _ => hb.trans (h3.mono hb.size), h1 W g' a' w' h2 (hb.trans (h3.mono hb.size))⟩)
theorem qR {post : V → Prop} {j : Nat} {b : Bool} (hi : L[i]? = some o) (hg : o.guard = some (j, b)) (hy : yld L.toArray s j = some b) (h : StepM c o s (fun s' => ∃ v, post v ∧ v.pure ∧ s' = s.put o.dst v)) (hN : ∀ v, post v → v.pure → AD2 c L.toArray Q need l (s.put o.dst v)) : AD2 c L.toArray Q need ((i, false) :: l) s :=
  jw hi hg hy fun g a w hs K Q' hK => h g a w hs K Q' fun g' s' a' w' ⟨v, h1, h2, e⟩ h3 h4 => hK g' s' a' w' (by subst e; exact hN v h1 h2) h3 h4
theorem jK {v : V} {j : Nat} {b : Bool} (hi : L[i]? = some o) (hg : o.guard = some (j, b)) (hy : yld L.toArray s j = some b) (hd : dok s o = true) (h : RD c o s v) (hN : AD2 c L.toArray Q need l (s.put o.dst v)) : AD2 c L.toArray Q need ((i, false) :: l) s :=
  jw hi hg hy (h.stepM hd hN)
theorem jx {v : V} {j : Nat} {b : Bool} (hi : L[i]? = some o) (hg : o.guard = some (j, b)) (hy : yld L.toArray s j = some b) (hd : dok s o = true) (h : RP c o s v) (hN : AD2 c L.toArray Q need l (s.put o.dst v)) : AD2 c L.toArray Q need ((i, false) :: l) s := jK hi hg hy hd h.rd hN
theorem qO (h : AD3 c L.toArray Q need l s) : AD2 c L.toArray Q need l s := fun W g a w hs _ => h _ g a w hs
theorem ja (h : Q .normal s) : AD2 c L.toArray Q need [] s := fun W g a w hs _ => ⟨g, s, h, hs⟩
theorem jy (hi : L[i]? = some o) (hg : o.guard = none) (hn : need i = false) (h : vm c o s (AD3 c L.toArray Q need l)) : AD3 c L.toArray Q need ((i, false) :: l) s := fun T g a w hs =>
  u6 (by simpa using hi) hg (h g a w hs _ _ fun g' s' a' w' h1 h2 => ⟨fun h0 => (by rw [hn] at h0; cases h0), h1 T g' a' w' h2⟩)
theorem qo (hi : L[i]? = some o) (hg : o.guard = none) (hn : need i = false) (h : vm c o s (fun s' => s' = X)) (hN : AD3 c L.toArray Q need l X) : AD3 c L.toArray Q need ((i, false) :: l) s :=
  jy hi hg hn fun g a w hs K Q' hK => h g a w hs K Q' fun g' s' a' w' e h1 => hK g' s' a' w' (by subst e; exact hN) h1
theorem jL {v : V} (hi : L[i]? = some o) (hg : o.guard = none) (hn : need i = false) (hd : dok s o = true) (h : RD c o s v) (hN : AD3 c L.toArray Q need l (s.put o.dst v)) : AD3 c L.toArray Q need ((i, false) :: l) s :=
  jy hi hg hn (h.stepM hd hN).step
theorem qH {v : V} (hi : L[i]? = some o) (hg : o.guard = none) (hn : need i = false) (hd : dok s o = true) (h : RP c o s v) (hN : AD3 c L.toArray Q need l (s.put o.dst v)) : AD3 c L.toArray Q need ((i, false) :: l) s := jL hi hg hn hd h.rd hN
theorem jM (h : Q .normal s) : AD3 c L.toArray Q need [] s := fun T g a w hs => ⟨g, s, h, hs⟩
end
def lk {α : Type} : List (Nat × α) → Nat → Option α
  | [], _ => none
  | p :: l, t => cond (Nat.beq p.1 t) (some p.2) (lk l t)
theorem qP3 {α : Type} {P : Nat → α → Prop} : ∀ {L : List (Nat × α)} {t : Nat} {d : α}, (∀ p ∈ L, P p.1 p.2) → lk L t = some d → P t d
  | [], t, d, _, h => by cases h
  | p :: l, t, d, hL, h => by
    rw [lk] at h
    cases hb : Nat.beq p.1 t with
    | true =>
      rw [hb] at h; simp only [cond_true, Option.some.injEq] at h; rw [← Nat.eq_of_beq_eq_true hb, ← h]; exact hL p mem_cons_self
    | false =>
      rw [hb] at h
      exact qP3 (fun q hq => hL q (mem_cons_of_mem _ hq)) h
def uL : List (Nat × TypeDesc) := [(3, (TypeDesc.int IntKind.i64)),
  (47, (TypeDesc.struct #[{ name := "In", type := 3, offset := 0, embedded := false, tag := "", pkgPath := "", byteOffset := 0 }, { name := "Out", type := 3, offset := 1, embedded := false, tag := "", pkgPath := "", byteOffset := 8 }, { name := "Weight", type := 3, offset := 2, embedded := false, tag := "", pkgPath := "", byteOffset := 16 }, { name := "To", type := 3, offset := 3, embedded := false, tag := "", pkgPath := "", byteOffset := 24 }])),
  (24, (TypeDesc.struct #[{ name := "Start", type := 3, offset := 0, embedded := false, tag := "", pkgPath := "", byteOffset := 0 }, { name := "States", type := 22, offset := 1, embedded := false, tag := "", pkgPath := "", byteOffset := 8 }])),
  (33, (TypeDesc.slice 47)),
  (22, (TypeDesc.slice 35)),
  (42, (TypeDesc.slice 3)),
  (35, (TypeDesc.struct #[{ name := "Final", type := 3, offset := 0, embedded := false, tag := "", pkgPath := "", byteOffset := 0 }, { name := "Arcs", type := 33, offset := 1, embedded := false, tag := "", pkgPath := "", byteOffset := 8 }])),
  (4, TypeDesc.bool),
  (37, (TypeDesc.struct #[{ name := "Acceptor", type := 4, offset := 0, embedded := false, tag := "", pkgPath := "", byteOffset := 0 }, { name := "Full", type := 4, offset := 1, embedded := false, tag := "", pkgPath := "", byteOffset := 1 }, { name := "Certain", type := 4, offset := 2, embedded := false, tag := "", pkgPath := "", byteOffset := 2 }, { name := "Sorted", type := 4, offset := 3, embedded := false, tag := "", pkgPath := "", byteOffset := 3 }, { name := "Plain", type := 4, offset := 4, embedded := false, tag := "", pkgPath := "", byteOffset := 4 }])),
  (51, (TypeDesc.slice 4)),
  (84, (TypeDesc.slice 42)),
  (147, (TypeDesc.struct #[{ name := "in", type := 3, offset := 0, embedded := false, tag := "", pkgPath := "tropica/certain", byteOffset := 0 }, { name := "out", type := 3, offset := 1, embedded := false, tag := "", pkgPath := "tropica/certain", byteOffset := 8 }])),
  (137, (TypeDesc.struct #[{ name := "state", type := 3, offset := 0, embedded := false, tag := "", pkgPath := "tropica/certain", byteOffset := 0 }, { name := "left", type := 3, offset := 1, embedded := false, tag := "", pkgPath := "tropica/certain", byteOffset := 8 }])),
  (134, (TypeDesc.array 3 3)),
  (53, (TypeDesc.struct #[{ name := "machine", type := 24, offset := 0, embedded := false, tag := "", pkgPath := "tropica/same", byteOffset := 0 }, { name := "total", type := 3, offset := 2, embedded := false, tag := "", pkgPath := "tropica/same", byteOffset := 32 }])),
  (143, (TypeDesc.map 147 152)),
  (142, (TypeDesc.slice 139)),
  (139, (TypeDesc.slice 137)),
  (152, (TypeDesc.map 3 3)),
  (104, (TypeDesc.struct #[{ name := "to", type := 3, offset := 0, embedded := false, tag := "", pkgPath := "tropica/distance", byteOffset := 0 }, { name := "weight", type := 3, offset := 1, embedded := false, tag := "", pkgPath := "tropica/distance", byteOffset := 8 }])),
  (114, (TypeDesc.struct #[{ name := "addr", type := 111, offset := 0, embedded := false, tag := "", pkgPath := "strings", byteOffset := 0 }, { name := "buf", type := 112, offset := 1, embedded := false, tag := "", pkgPath := "strings", byteOffset := 8 }])),
  (112, (TypeDesc.slice 5)),
  (102, (TypeDesc.slice 104)),
  (9, TypeDesc.string),
  (49, (TypeDesc.slice 51)),
  (62, (TypeDesc.array 2 3)),
  (111, (TypeDesc.pointer 114)),
  (132, (TypeDesc.map 134 3)),
  (145, (TypeDesc.slice 147)),
  (72, (TypeDesc.map 9 75)),
  (101, (TypeDesc.slice 102)),
  (141, (TypeDesc.map 9 140)),
  (140, (TypeDesc.struct #[{ name := "at", type := 3, offset := 0, embedded := false, tag := "", pkgPath := "tropica/certain", byteOffset := 0 }])),
  (75, (TypeDesc.struct #[{ name := "class", type := 3, offset := 0, embedded := false, tag := "", pkgPath := "tropica/least", byteOffset := 0 }])),
  (61, (TypeDesc.map 62 3)),
  (77, (TypeDesc.int IntKind.u64)),
  (181, TypeDesc.unsafePointer),
  (194, (TypeDesc.array 20 125)),
  (125, (TypeDesc.int IntKind.u64)),
  (167, (TypeDesc.pointer 5)),
  (109, (TypeDesc.array 4 3))]
theorem uT {d : TypeDesc} (h : lk uL t = some d) : prog.underlying t = some d := by
  refine qP3 (P := fun t d => prog.underlying t = some d) ?_ h; simp only [uL, List.forall_mem_cons]
  exact ⟨underlying3, underlying47, underlying24, underlying33, underlying22, underlying42, underlying35, underlying4, underlying37, underlying51, underlying84, underlying147, underlying137, underlying134, underlying53, underlying143, underlying142, underlying139, underlying152, underlying104, underlying114, underlying112, underlying102, underlying9, underlying49, underlying62, underlying111, underlying132, underlying145, underlying72, underlying101, underlying141, underlying140, underlying75, underlying61, underlying77, underlying181, underlying194, underlying125, underlying167, underlying109, fun _ h => by cases h⟩
def iL : List (Nat × Nat × Nat × Value) := [(3, 1, 8, (Value.int IntKind.i64 0)),
  (24, 2, 32, (.agg #[Value.int IntKind.i64 0, Value.slice none 0 0])),
  (47, 4, 32, (.agg #[Value.int IntKind.i64 0, Value.int IntKind.i64 0, Value.int IntKind.i64 0, Value.int IntKind.i64 0])),
  (35, 2, 32, (.agg #[Value.int IntKind.i64 0, Value.slice none 0 0])),
  (22, 1, 24, (Value.slice none 0 0)),
  (4, 1, 1, (Value.bool false)),
  (33, 1, 24, (Value.slice none 0 0)),
  (37, 5, 5, (.agg #[Value.bool false, Value.bool false, Value.bool false, Value.bool false, Value.bool false])),
  (42, 1, 24, (Value.slice none 0 0)),
  (147, 2, 16, (.agg #[Value.int IntKind.i64 0, Value.int IntKind.i64 0])),
  (137, 2, 16, (.agg #[Value.int IntKind.i64 0, Value.int IntKind.i64 0])),
  (134, 3, 24, (.agg #[Value.int IntKind.i64 0, Value.int IntKind.i64 0, Value.int IntKind.i64 0])),
  (53, 3, 40, (.agg #[Value.int IntKind.i64 0, Value.slice none 0 0, Value.int IntKind.i64 0])),
  (104, 2, 16, (.agg #[Value.int IntKind.i64 0, Value.int IntKind.i64 0])),
  (51, 1, 24, (Value.slice none 0 0)),
  (152, 1, 8, (Value.map none)),
  (140, 1, 8, (.agg #[Value.int IntKind.i64 0])),
  (112, 1, 24, (Value.slice none 0 0)),
  (139, 1, 24, (Value.slice none 0 0)),
  (102, 1, 24, (Value.slice none 0 0)),
  (62, 2, 16, (.agg #[Value.int IntKind.i64 0, Value.int IntKind.i64 0])),
  (75, 1, 8, (.agg #[Value.int IntKind.i64 0])),
  (111, 1, 8, (Value.pointer none)),
  (114, 2, 32, (.agg #[Value.pointer none, Value.slice none 0 0])),
  (5, 1, 1, (Value.int IntKind.u8 0)),
  (84, 1, 24, (Value.slice none 0 0))]
theorem iT (h : lk iL t = some (sz, bt, z)) : Inf prog t sz bt z := by
  refine qP3 (P := fun t d => Inf prog t d.1 d.2.1 d.2.2) ?_ h; simp only [iL, List.forall_mem_cons]
  exact ⟨zz, xN, zO, xD, qo6, qa1, qo7, q80, u9, q58, q15, qw7, gZ, q14, q42, yr, qc2, qP1, qw8, q13, qw5, qw6, jh6, qk4, jb2, jb4, fun _ h => by cases h⟩
section
variable {c : Cx} {s : S} {o : Oper} {Q : Exit → S → Prop} {ops : Array Oper} {rest : List Oper}
theorem k39 {t : TypeId} {x : Operand} {f k' : Nat} {fs : Array Field} {fd : Field} {sz bt : Nat} {z : Value} (hP : c.P = prog) (ho : o.op = .fieldAddr t x f) (hx : s.ev x = some (.ref r k)) (hu : lk uL t = some (.struct fs))
    (hf : fs[f]? = some fd) (hi : lk iL fd.type = some (sz, bt, z)) (xz : sz ≠ 0) (hk : k + fd.offset = k') : RP c o s (.ref r k') := xe (by rw [hP]; exact uT hu) ho hx hf (by rw [hP]; exact iT hi) xz hk
theorem k40 {t : TypeId} {x : Operand} {f k : Nat} {row : List D} {fs : Array Field} {fd : Field} {sz bt : Nat} {z : Value} (hP : c.P = prog) (ho : o.op = .fieldAddr t x f) (hx : s.ev x = some (.ad row)) (hu : lk uL t = some (.struct fs))
    (hf : fs[f]? = some fd) (hi : lk iL fd.type = some (sz, bt, z)) (xz : sz ≠ 0) (hk : fd.offset = k) : RP c o s (.ad (row.drop k)) := gn (by rw [hP]; exact uT hu) ho hx hf (by rw [hP]; exact iT hi) xz hk
theorem k41 {t : TypeId} {d : TypeDesc} {x : Operand} {v : V} (hP : c.P = prog) (ho : o.op = .load t x) (hu : lk uL t = some d) (hd : wD d = false) (hx : s.ev x = some (.ref r k)) (hr : fnd s.H r = some row) (hn : row.nil = false) (hv : row.cells[k]? = some v) : RD c o s v := xO (by rw [hP]; exact uT hu) hd ho hx hr hn hv
theorem k42 {t : TypeId} {d : TypeDesc} {x : Operand} {row : List D} {v : D} (hP : c.P = prog) (ho : o.op = .load t x) (hu : lk uL t = some d) (hd : wD d = false) (hx : s.ev x = some (.ad row)) (hv : row[0]? = some v) : RD c o s (.d v) := vE (by rw [hP]; exact uT hu) hd ho hx hv
theorem jW5 {t : TypeId} {d : TypeDesc} {x : Operand} {l : List V} (hP : c.P = prog) (ho : o.op = .load t x) (hu : lk uL t = some d) (hd : wD d = true) (hi : lk iL t = some (sz, bt, z)) (hx : s.ev x = some (.ref r k)) (hr : fnd s.H r = some row) (hn : row.nil = false)
    (hl : (row.cells.drop k).take sz = l) (zI : l.length = sz) : RD c o s (.agg l) := vQ (by rw [hP]; exact uT hu) hd (by rw [hP]; exact iT hi) ho hx hr hn hl zI
theorem jW6 {t : TypeId} {d : TypeDesc} {x : Operand} {row l : List D} (hP : c.P = prog) (ho : o.op = .load t x) (hu : lk uL t = some d) (hd : wD d = true) (hi : lk iL t = some (sz, bt, z)) (hx : s.ev x = some (.ad row))
    (hl : row.take sz = l) (zI : l.length = sz) : RD c o s (.agg (l.map V.d)) := q07 (by rw [hP]; exact uT hu) hd (by rw [hP]; exact iT hi) ho hx hl zI
theorem k43 {t e : TypeId} {x : Operand} {r sz n : Nat} {z : Bool} (hP : c.P = prog) (ho : o.op = .call { callee := .builtin .len, args := #[x], argTypes := #[t] }) (hu : lk uL t = some (.slice e)) (hx : s.ev x = some (.own r sz n z)) : RP c o s (.i (n : Int)) := ja6 (by rw [hP]; exact uT hu) ho hx
theorem k44 {t e : TypeId} {x i : Operand} {k : Nat} (hP : c.P = prog) (ho : o.op = .indexAddr t x i) (hu : lk uL t = some (.slice e)) (hi : lk iL e = some (sz, bt, z)) (hx : s.ev x = some (.own r sz n false)) (hy : s.ev i = some (.d (.p (.int kd n'))))
    (hk : n' = (k : Int)) (zk : k < n) : RP c o s (.ref r (k * sz)) := vj (by rw [hP]; exact uT hu) (by rw [hP]; exact iT hi) ho hx hy hk zk
theorem k45 {t : TypeId} {x : Operand} {v : V} {l : List V} (hP : c.P = prog) (ho : o.op = .store t x y) (hi : lk iL t = some (sz, bt, z)) (hd : o.dst = none) (hx : s.ev x = some (.ref r k)) (hy : s.ev y = some v) (hr : fnd s.H r = some row) (hn : row.nil = false)
    (x6 : v.ok = true) (hl : v.cs.length = sz) (q29 : k + sz ≤ row.cells.length) (wJ : xg row.cells k v.cs = l) : vm c o s (fun s' => s' = { s with H := (r, { row with cells := l }) :: s.H }) := gY (by rw [hP]; exact iT hi) ho hd hx hy hr hn x6 hl q29 wJ
section
variable {α : Type}
theorem k46 {t e : TypeId} {x i : Operand} {k : Nat} {l : List α} {f : α → List D} {y : α} (hP : c.P = prog) (ho : o.op = .indexAddr t x i) (hu : lk uL t = some (.slice e)) (hi : lk iL e = some (sz, bt, z)) (hx : s.ev x = some (.d (.sl sz bt' (l.map f)))) (hy : s.ev i = some (.d (.p (.int kd n'))))
    (hk : n' = (k : Int)) (hl : l[k]? = some y) : RP c o s (.ad (f y)) := x7 (by rw [hP]; exact uT hu) (by rw [hP]; exact iT hi) ho hx hy hk hl
theorem k47 {t e : TypeId} {x : Operand} {sz bt' n : Nat} {l : List α} {f : α → List D} (hP : c.P = prog) (ho : o.op = .call { callee := .builtin .len, args := #[x], argTypes := #[t] }) (hu : lk uL t = some (.slice e)) (hx : s.ev x = some (.d (.sl sz bt' (l.map f)))) (hl : l.length = n) : RP c o s (.i (n : Int)) := jb1 (by rw [hP]; exact uT hu) ho hx hl
theorem k48 {t : TypeId} {d : TypeDesc} {x : Operand} {l : List α} {f : α → V} {y : α} (hP : c.P = prog) (ho : o.op = .load t x) (hu : lk uL t = some d) (hd : wD d = false) (hx : s.ev x = some (.ref r (k * 1))) (hr : fnd s.H r = some row) (hn : row.nil = false) (hf : row.cells = l.map f) (hl : l[k]? = some y) : RD c o s (f y) := w6 (by rw [hP]; exact uT hu) hd ho hx hr hn hf hl
end
theorem kB {v : V} {b : BinOp} {t t' : TypeId} {x : Operand} (h : o.op = .binOp b t x y t') (k : RD c o s v) : RD c o s v := k
theorem kL {v : V} {t : TypeId} {x : Operand} (h : o.op = .load t x) (k : RD c o s v) : RD c o s v := k
theorem kF {v : V} {t : TypeId} {x : Operand} {f : Nat} (h : o.op = .fieldAddr t x f) (k : RD c o s v) : RD c o s v := k
theorem kX {v : V} {t : TypeId} {x : Operand} (h : o.op = .indexAddr t x y) (k : RD c o s v) : RD c o s v := k
theorem zD {v : V} (h : RD c o s v := by first | exact RP.rd (vC rfl rfl) | exact RP.rd (yE rfl rfl) | (apply kL; exact rfl; first | exact k41 rfl rfl rfl rfl rfl rfl rfl rfl | exact k42 rfl rfl rfl rfl rfl rfl | exact jW5 rfl rfl rfl rfl rfl rfl rfl rfl rfl rfl | exact jW6 rfl rfl rfl rfl rfl rfl rfl rfl | exact k48 rfl rfl rfl rfl rfl rfl rfl rfl (by assumption)) | (apply kF; exact rfl; first | exact RP.rd (k39 rfl rfl rfl rfl rfl rfl (by decide) rfl) | exact RP.rd (k40 rfl rfl rfl rfl rfl rfl (by decide) rfl)) | (apply kB; exact rfl; first | exact RP.rd (qw0 rfl rfl rfl (by first | omega | (dsimp only; omega))) | exact RP.rd (jh1 rfl rfl rfl (by first | omega | (dsimp only; omega))) | exact RP.rd (rp_mul rfl rfl rfl (by first | omega | (dsimp only; omega))) | exact RP.rd (qB2 rfl rfl rfl (by first | assumption | omega | (dsimp only; omega))) | exact RP.rd (qB3 rfl rfl rfl (by first | assumption | omega | (dsimp only; omega))) | exact RP.rd (jD3 rfl rfl rfl (by first | assumption | omega | (dsimp only; omega))) | exact RP.rd (jD4 rfl rfl rfl (by first | assumption | omega | (dsimp only; omega))) | exact RP.rd (jD5 rfl rfl rfl (by first | assumption | omega | (dsimp only; omega))) | exact RP.rd (jD6 rfl rfl rfl (by first | assumption | omega | (dsimp only; omega))) | exact RP.rd (jD7 rfl rfl rfl (by first | assumption | omega | (dsimp only; omega))) | exact RP.rd (jD8 rfl rfl rfl (by first | assumption | omega | (dsimp only; omega))) | exact RP.rd (jC9 rfl rfl rfl (by first | assumption | omega | (dsimp only; omega))) | exact RP.rd (jD0 rfl rfl rfl (by first | assumption | omega | (dsimp only; omega))) | exact RP.rd (jD1 rfl rfl rfl (by first | assumption | omega | (dsimp only; omega))) | exact RP.rd (jD2 rfl rfl rfl (by first | assumption | omega | (dsimp only; omega)))) | (apply kX; exact rfl; first | exact RP.rd (k44 rfl rfl rfl rfl rfl rfl rfl (by first | assumption | omega)) | exact RP.rd (k46 rfl rfl rfl rfl rfl rfl rfl (by assumption))) | exact RP.rd (qw2 rfl rfl rfl) | exact RP.rd (qb8 rfl rfl rfl) | exact RP.rd (k47 rfl rfl rfl rfl (by assumption)) | exact RP.rd (k43 rfl rfl rfl rfl) | exact RP.rd (qk0 rfl rfl)) : RD c o s v := h
theorem ku {v : V} (hN : AL c ops rest Q (s.put o.dst v)) (h : RD c o s v := by exact zD) (hg : o.guard = none := by exact rfl) (hd : dok s o = true := by exact rfl) : AL c ops (o :: rest) Q s := AL.rd hg hd h hN
theorem jN (hN : AL c ops rest Q X) (h : vm c o s (fun s' => s' = X) := by exact k45 rfl rfl rfl rfl rfl rfl rfl rfl rfl rfl (by first | decide | (simp; done) | (simp; omega)) rfl) (hg : o.guard = none := by exact rfl) : AL c ops (o :: rest) Q s := qf hg h hN
theorem kw {v : V} {j : Nat} {b : Bool} (hN : AL c ops rest Q (s.put o.dst v)) (hg : o.guard = some (j, b) := by exact rfl) (hy : yld ops s j = some b := by exact rfl) (hd : dok s o = true := by exact rfl) (h : RD c o s v := by exact zD) : AL c ops (o :: rest) Q s := qU hg hy hd h hN
theorem jO {L : List Oper} {need : Nat → Bool} {i : Nat} {l : List (Nat × Bool)} {v : V} (hN : AD1 c L.toArray Q need l (s.put o.dst v)) (hi : L[i]? = some o := by exact rfl) (hg : o.guard = none := by exact rfl) (hd : dok s o = true := by exact rfl) (hp : noP Q := by exact fun _ _ h => h) (h : RD c o s v := by exact zD) : AD1 c L.toArray Q need ((i, true) :: l) s := AD1.rd hi hg hd hp h hN
theorem jP {L : List Oper} {need : Nat → Bool} {i : Nat} {l : List (Nat × Bool)} {v : V} {j : Nat} {b : Bool} (hN : AD1 c L.toArray Q need l (s.put o.dst v)) (hi : L[i]? = some o := by exact rfl) (hg : o.guard = some (j, b) := by exact rfl) (hy : yld L.toArray s j = some b := by exact rfl) (hd : dok s o = true := by exact rfl) (hp : noP Q := by exact fun _ _ h => h) (h : RD c o s v := by exact zD) : AD1 c L.toArray Q need ((i, true) :: l) s := qu hi hg hy hd hp h hN
theorem qr {l : List Oper} {y : Code} (h : AL c l.toArray l (wY (AW c y Q) Q) s) : AW c (.seq (.region id l.toArray false) y) Q s := qg (j8 h)
end
theorem q8 {s : S} (hT : LT s s'.T := by repeat (first | exact trivial | refine ⟨⟨_, rfl, Wk.refl _⟩, ?_⟩ | refine ⟨⟨_, rfl, Wk.nil _ _⟩, ?_⟩ | refine ⟨⟨_, rfl, Wk.junk _⟩, ?_⟩)) (hH : LH s s'.H := by repeat (first | exact trivial | refine ⟨rfl, ?_⟩)) (hn : s'.n = s.n := by exact rfl) (hK : s'.K = s.K := by exact rfl) : Less s' s := Less.of hn hT hH hK
theorem qd {s : S} (hT : LT s s'.T := by repeat (first | exact trivial | refine ⟨⟨_, rfl, Wk.refl _⟩, ?_⟩ | refine ⟨⟨_, rfl, Wk.nil _ _⟩, ?_⟩ | refine ⟨⟨_, rfl, Wk.junk _⟩, ?_⟩)) (hH : LH s s'.H := by repeat (first | exact trivial | refine ⟨rfl, ?_⟩ | exact LH.fam | refine LH.skip (by decide) ?_)) (hn : s'.n = s.n := by exact rfl) (hK : s'.K = s.K := by exact rfl) : Less s' s := Less.of hn hT hH hK
theorem qC {s : S} (hT : LT s s'.T := by repeat (first | exact trivial | refine ⟨⟨_, rfl, Wk.refl _⟩, ?_⟩)) (hH : LH s s'.H := by repeat (first | exact trivial | refine ⟨rfl, ?_⟩)) (hn : s'.n = s.n := by exact rfl) (hK : s'.K = s.K := by exact rfl) : Less s' s := Less.of hn hT hH hK
theorem nz {α : Type} : (∀ (a : α) (l : List α), (a :: l).length = l.length + 1) ∧ (([] : List α).length = 0) ∧ (∀ (n : Nat) (a : α) (l : List α), (a :: l).take (n + 1) = a :: l.take n) ∧ (∀ l : List α, l.take 0 = []) ∧ (∀ (n : Nat) (a : α) (l : List α), (a :: l).drop (n + 1) = l.drop n) ∧ (∀ l : List α, l.drop 0 = l) ∧ (∀ n : Nat, ([] : List α).drop n = []) ∧ (∀ l : List α, [] ++ l = l) ∧ (∀ (a : α) (l m : List α), (a :: l) ++ m = a :: (l ++ m)) ∧ (∀ l : List α, l ++ [] = l) :=
  ⟨fun _ _ => rfl, rfl, fun _ _ _ => rfl, fun _ => rfl, fun _ _ _ => rfl, fun _ => rfl, fun _ => List.drop_nil, fun _ => rfl, fun _ _ _ => rfl, append_nil⟩
theorem nm {α β : Type} : (∀ (f : α → β) (a : α) (l : List α), (a :: l).map f = f a :: l.map f) ∧ (∀ f : α → β, ([] : List α).map f = []) := ⟨fun _ _ _ => rfl, fun _ => rfl⟩
theorem ns {α : Type} : (∀ (a b : α) (l : List α), (a :: l).set 0 b = b :: l) ∧ (∀ (n : Nat) (a b : α) (l : List α), (a :: l).set (n + 1) b = a :: l.set n b) := ⟨fun _ _ _ => rfl, fun _ _ _ _ => rfl⟩
theorem nd : (type_of% @wY.eq_1) ∧ (type_of% @S.put.eq_1) ∧ (type_of% @S.newObj.eq_1) ∧ (∀ n : Nat, 0 + n = n) := ⟨@wY.eq_1, @S.put.eq_1, @S.newObj.eq_1, zero_add⟩
theorem nh : (type_of% @xm) ∧ (type_of% @xF) ∧ (type_of% @xG) ∧ (type_of% @qc1) ∧ (type_of% @xc) ∧ (type_of% @x4) := ⟨@xm, @xF, @xG, @qc1, @xc, @x4⟩
theorem zT0 {p : Prop} (h : p := by simp [S.clean, S.put, S.newObj, S.forget, V.has, V.hasL, zV, xg, V.cs, xm, qc1, xF, xG, xc, x4, zE, zA, -List.map_set]) : p := h
theorem zT1 {p : Prop} (h : p := by simp [S.clean, V.has, V.hasL, V.cs, xg, xm, xc, qc1, zE]) : p := h
theorem zT2 {p : Prop} (h : p := by first | assumption | omega | (dsimp only; omega)) : p := h
theorem zT3 {p : Prop} (h : p := by first | decide | (simp; done) | (simp; omega)) : p := h
theorem zT4 {p : Prop} (h : p := by simp [S.clean, V.has, V.hasL, V.cs, xg]) : p := h
theorem zT5 {p : Prop} (h : p := by first | assumption | rfl | (simp; done)) : p := h
theorem zT6 {p : Prop} (h : p := by first | omega | (dsimp only; omega)) : p := h
theorem zT7 {p : Prop} (h : p := by first | decide | (simp; done)) : p := h
theorem zT8 {p : Prop} (h : p := by simp [V.pure, V.has, V.hasL]) : p := h
theorem zT9 {p : Prop} (h : p := by first | assumption | omega) : p := h
theorem yp {p : Prop} (h : p := by first | decide | omega) : p := h
theorem zh {p : Prop} (h : p := by kernel_rfl) : p := h
theorem zm {p : Prop} (h : p := by assumption) : p := h
theorem zj {p : Prop} (h : p := by decide) : p := h
theorem zg {p : Prop} (h : p := by omega) : p := h
theorem zx {p : Prop} (h : p := by simp) : p := h
def D.one : D → Bool
  | .p x => x.oneCell'
  | .sl _ _ _ => true
  | .mp _ => true
  | .mm _ => true
theorem DRep.one {w : World} {q : Nat → Prop} {u : D} {x : Value} (h : DRep w q u x) (ho : u.one = true) : x.oneCell' = true := by
  cases h with
  | p => exact ho
  | sl => rfl
  | mp => rfl
  | mm => rfl
section
variable {c : Cx} {s : S} {o : Oper} {α : Type}
theorem qB5 {P : Program} {t : TypeId} (hu : P.underlying t = some .bool) (a b : Bool) (w : World) : (Op.equal t (.bool a) (.bool b)).run P w = .ok (a == b) w := by
  have h : ∀ d : Nat, (Op.equalIn (d + 1) t (.bool a) (.bool b)).run P w = .ok (a == b) w := fun d => by simp [Op.equalIn, run_underlying hu]
  exact h 9999
theorem jD9 {t t' : TypeId} {x : Operand} {a b : Bool} (hu : c.P.underlying t = some .bool) (ho : o.op = .binOp .eql t x y t') (hx : s.ev x = some (.b a)) (hy : s.ev y = some (.b b)) : RP c o s (.b (a == b)) :=
  gl ho hx hy fun w => by
    have h := qB5 hu a b w; have h2 : (binOp .eql t (.bool a) (.bool b)).run c.P w = .ok (.bool (a == b)) w := by simp only [binOp]; simp [h]
    have h3 : (eqGuard .eql t x y (.bool a) (.bool b)).run c.P w = .ok () w := by simp [eqGuard]
    simp only [Sem.run_bind, h3, Result.andThen_ok, h2]
theorem uF {t t' : TypeId} {x : Operand} {a b : ByteArray} (ho : o.op = .binOp .add t x y t') (hx : s.ev x = some (.s a)) (hy : s.ev y = some (.s b)) (h : a.size + b.size ≤ 9223372036854775807) : RP c o s (.s (a ++ b)) :=
  gl ho hx hy fun w => by
    have hm : IntKind.i64.max = 9223372036854775807 := by rfl
    have h1 : ¬ ((9223372036854775807 : Int) < (a.size : Int) + b.size) := by omega
    simp [eqGuard, binOp, Op.stringOp, hm]; omega
theorem jB6 {w : World} {q : Nat → Prop} {g : Nat → Nat × Nat} {vs : List Value} {x : Value} (h : VRep w q g (.agg (vs.map fun y => .d (.p y))) x) : x = .agg vs.toArray := by
  generalize hl : vs.map (fun y => V.d (.p y)) = l at h
  cases h with
  | agg _ cs zI hh =>
    subst hl
    congr 2
    apply ext_getElem?; intro j; simp only [length_map] at zI
    by_cases hj : j < vs.length
    · have h1 := hh j (.d (.p vs[j])) cs[j] (by simp [hj]) (List.getElem?_eq_getElem (by omega))
      rw [List.getElem?_eq_getElem (show j < cs.length by omega), List.getElem?_eq_getElem hj, VRep.p_eq h1]
    · grind
theorem qe6 {op : BinOp} {t t' : TypeId} {x y : Operand} (us vs : List Value) {b : Bool} (ho : o.op = .binOp op t x y t') (hx : s.ev x = some (.agg (us.map fun y => .d (.p y)))) (hy : s.ev y = some (.agg (vs.map fun y => .d (.p y))))
    (hg : ∀ w, (eqGuard op t x y (.agg us.toArray) (.agg vs.toArray)).run c.P w = .ok () w) (hr : ∀ w, (binOp op t (.agg us.toArray) (.agg vs.toArray)).run c.P w = .ok (.bool b) w) : RP c o s (.b b) := fun g a w hs =>
  ⟨.bool b, .d _ _ (.p _), fun w' => by
    simp only [execOp, ho, jB6 (hs.ev hx), jB6 (hs.ev hy), Sem.run_bind, hg w', hr w', Result.andThen_ok]
    rfl⟩
theorem jo9 {t e : TypeId} {x y : Operand} {rows : List (List D)} (hu : c.P.underlying t = some (.slice e)) (hi : Inf c.P e sz bt z) (hzs : z.cells.size = sz) (xz : 0 < sz) (hbb : bt ≤ bt') (gA : 0 < bt)
    (ho : o.op = .call { callee := .builtin .append, args := #[x, y], argTypes := #[t, t] }) (hx : s.ev x = some .nil) (hy : s.ev y = some (.d (.sl sz bt' rows))) (vi : ∀ r ∈ rows, r.length = sz ∧ ∀ u ∈ r, u.one = true) (hd : dok s o = true) : StepM c o s (fun s' => s' = s.put o.dst (.d (.sl sz bt' rows))) := by
  intro g a w hs K Q hK; have hxv := VRep.p_eq (hs.ev hx); have h := hs.ev hy; obtain ⟨i, hi1, hi2, hi3, hi4⟩ := hi.out
  obtain ⟨ad, cap, b, o', f, hyv, ha, hl, hc, hr⟩ : ∃ (ad : Option Addr) (cap b o' : Nat) (f : Nat → Nat → Value), a.eval y = .slice ad rows.length cap ∧ (rows ≠ [] → ad = some ⟨b, o', none⟩ ∧ qt c s.H g b ∧ b < w.heap.size) ∧ rows.length * bt' ≤ 140737488355328 ∧
      (∀ (i j : Nat) (row : List D) (u : D), rows[i]? = some row → row[j]? = some u → w.cell? ⟨b, o' + i * sz + j, none⟩ = some (f i j)) ∧ (∀ (i j : Nat) (row : List D) (u : D), rows[i]? = some row → row[j]? = some u → DRep w (qt c s.H g) u (f i j)) := by
    generalize a.eval y = v at h
    cases h with
    | d _ _ h => cases h with | sl _ _ _ ad cap b o' f _ ha hl hc hr => exact ⟨ad, cap, b, o', f, rfl, ha, hl, hc, hr⟩
  unfold Oper.wp
  by_cases h0 : rows = []
  · subst h0
    have xP : (execOp a.eval o).run c.P w = .ok (.value (.slice none 0 0)) w := by
      simp only [execOp, ho, resolve, invoke, builtin, Sem.run_bind, Sem.run_pure, Result.andThen_ok, map_toArray, map_cons, map_nil, hxv, hyv]
      have : (Builtin.append_ #[t, t] o.type #[.slice none 0 0, .slice ad ([] : List (List D)).length cap]).run c.P w = .ok (.slice none 0 0) w := by
        simp [Builtin.append_, run_underlying hu, vP hi, Builtin.lenOf]
        cases ad <;> simp [Builtin.firstCells, loadCells, loadCellsFrom]
      rw [this]; rfl
    rw [xP]
    exact hK g _ _ _ rfl (hs.put o.dst (zJ hd) (.d _ _ (.sl sz bt' [] none 0 0 0 (fun _ _ => undef) (le_refl 0) (fun h => absurd rfl h) (by simp) (by simp) (by simp)))) (Below.refl _ _)
  · obtain ⟨rfl, hq, hb⟩ := ha h0
    have hle : rows.length * bt ≤ rows.length * bt' := Nat.mul_le_mul_left _ hbb; have ka6 : rows.length ≤ rows.length * bt := Nat.le_mul_of_pos_right _ gA
    have hdm : ∀ k, k < rows.length * sz → k / sz < rows.length ∧ k % sz < sz ∧ k = k / sz * sz + k % sz := fun k hk =>
      ⟨by rw [Nat.div_lt_iff_lt_mul xz]; exact hk, Nat.mod_lt _ xz, by have := Nat.div_add_mod k sz; rw [Nat.mul_comm] at this; exact this.symm⟩
    have wP : ∀ k, k < rows.length * sz → ∃ row u, rows[k / sz]? = some row ∧ row[k % sz]? = some u ∧ u.one = true ∧ row ∈ rows := by
      intro k hk; obtain ⟨h1, h2, _⟩ := hdm k hk; have hm : rows[k / sz] ∈ rows := List.getElem_mem _; have h3 := vi _ hm; refine ⟨rows[k / sz], rows[k / sz][k % sz]'(by omega), List.getElem?_eq_getElem h1, List.getElem?_eq_getElem (by omega), h3.2 _ (List.getElem_mem _), hm⟩
    obtain ⟨v', w', zv, r1, r2, r3, r4⟩ := run_append_own_at (P := c.P) w w.heap.size t o.type e i z sz bt hu hi1 hi4 hi2 hi3 hzs xz (.slice none 0 0) 0 [] (World.ownsRow_nil _ _ _ _) ⟨b, o', none⟩ rows.length cap ((List.range (rows.length * sz)).map fun k => f (k / sz) (k % sz)) (by simp) (by
        intro j u hu'; rw [List.getElem?_map] at hu'
        by_cases hj : j < rows.length * sz
        · grind [List.getElem?_range, Option.some.injEq, wN, Nat.add_assoc]
        · rw [List.getElem?_eq_none (by simpa using hj)] at hu'; cases hu') (by
        intro u hu'; obtain ⟨k, hk, rfl⟩ := List.mem_map.1 hu'; obtain ⟨row, u, h1, h2, h3, _⟩ := wP k (by simpa using hk)
        exact (hr _ _ row u h1 h2).one h3) (by simp only [maxLen]; omega) (by rw [zero_add]; omega) (le_refl _)
    obtain ⟨q1, q2⟩ := r1
    rcases q2 with ⟨_, hz0⟩ | ⟨G, cap', cur, rfl, hG, q3, q4, q5, q6, q7⟩
    · grind
    · have qe5 : Below w.heap.size w w' := (Below.refl _ _).grown r2 (le_refl _) (fun k hk => by simp [Value.ownBlock] at hk)
      have xP : (execOp a.eval o).run c.P w = .ok (.value (.slice (some ⟨G, 0, none⟩) (0 + rows.length) cap')) w' := by
        simp only [execOp, ho, resolve, invoke, builtin, Sem.run_bind, Sem.run_pure, Result.andThen_ok, map_toArray, map_cons, map_nil, hxv, hyv, zv]
      rw [xP]; refine hK g _ _ _ rfl ((hs.move qe5).put o.dst (zJ hd) (.d _ _ ?_)) qe5; rw [zero_add]; refine .sl sz bt' rows (some ⟨G, 0, none⟩) cap' G 0 f (by omega) (fun _ => ⟨rfl, ⟨fun h => ?_, fun k row hk hn e' => ?_⟩, (Array.getElem?_eq_some_iff.1 q3).1⟩) hl ?_ ?_
      · have h1 := hs.low _ h
        have h2 := hs.below.size; omega
      · obtain ⟨arr, h1, _⟩ := hs.obj k row hk hn
        have := (Array.getElem?_eq_some_iff.1 h1).1; omega
      · intro i j row u h1 h2
        rw [zero_add, cell_of_row w' G _ _ _ _ q3]; have vr : i < rows.length := (List.getElem?_eq_some_iff.1 h1).1; have vJ : j < sz := by rw [← (vi row (mem_of_getElem? h1)).1]; exact (List.getElem?_eq_some_iff.1 h2).1
        have zk : i * sz + j < rows.length * sz := by
          have : (i + 1) * sz ≤ rows.length * sz := Nat.mul_le_mul_right _ vr; rw [succ_mul] at this; omega
        have h3 : (cur.toList.take ((0 + rows.length) * sz))[i * sz + j]? = some (f i j) := by
          rw [q7, nil_append, List.getElem?_map, List.getElem?_range zk]; simp only [map_some, Option.some.injEq]
          have e1 : (i * sz + j) / sz = i := by
            rw [Nat.mul_comm, Nat.mul_add_div xz, Nat.div_eq_of_lt vJ, Nat.add_zero]
          have e2 : (i * sz + j) % sz = j := by rw [Nat.mul_comm, Nat.mul_add_mod, Nat.mod_eq_of_lt vJ]
          rw [e1, e2]
        rw [List.getElem?_take_of_lt (by rw [zero_add]; exact zk)] at h3
        simpa using h3
      · intro i j row u h1 h2
        exact (hr i j row u h1 h2).mono ⟨qe5.size, fun b o u _ h1 h2 => (qe5.cell (p := ⟨b, o, none⟩) h1).trans h2, Below.maps qe5⟩ (fun _ h _ => h)
theorem Sim.adoptH {g : Nat → Nat × Nat} {a : Act} {w : World} (hs : Sim c g s a w) {b j sz : Nat} {ty : TypeId} (hb : fnd s.H b = some row) (hn : row.nil = false) (hj : row.cells[j]? = some .nil) (hr : s.clean r = true) : Sim c g ⟨s.n, s.T, (b, { row with cells := row.cells.set j (.own r sz 0 true) }) :: (r, ⟨ty, [], true, sz⟩) :: s.H, s.K⟩ a w := by
  have hbr : b ≠ r := (S.clean_obj hr hb).1
  have xY : ∀ k row', fnd ((b, { row with cells := row.cells.set j (.own r sz 0 true) }) :: (r, (⟨ty, [], true, sz⟩ : Row)) :: s.H) k = some row' → k = b ∧ row' = { row with cells := row.cells.set j (.own r sz 0 true) } ∨ k ≠ b ∧ k = r ∧ row' = ⟨ty, [], true, sz⟩ ∨ k ≠ b ∧ k ≠ r ∧ fnd s.H k = some row' := by
    grind [fnd]
  have hq : ∀ x, qt c s.H g x → x < w.heap.size → qt c ((b, { row with cells := row.cells.set j (.own r sz 0 true) }) :: (r, (⟨ty, [], true, sz⟩ : Row)) :: s.H) g x := by
    intro x hx _; refine ⟨hx.1, fun k row' hk xU => ?_⟩
    rcases xY k row' hk with ⟨rfl, rfl⟩ | ⟨_, rfl, rfl⟩ | ⟨_, _, h⟩
    · exact hx.2 _ row hb hn
    · cases xU
    · exact hx.2 k row' h xU
  have hm : ∀ {v x}, VRep w (qt c s.H g) g v x → VRep w (qt c ((b, { row with cells := row.cells.set j (.own r sz 0 true) }) :: (r, (⟨ty, [], true, sz⟩ : Row)) :: s.H) g) g v x := fun hv => hv.mono Cells.rfl hq (fun _ _ => rfl)
  refine ⟨hs.size, hs.defers, ?_, ?_, ?_, ?_, ?_, ?_, hs.low, hs.below⟩
  · intro i v hv
    obtain ⟨x, h1, h2⟩ := hs.tmp i v hv; exact ⟨x, h1, hm h2⟩
  · intro k row' hk xU
    rcases xY k row' hk with ⟨rfl, rfl⟩ | ⟨_, rfl, rfl⟩ | ⟨_, _, h⟩
    · simp only at xU; rw [hn] at xU; cases xU
    · rfl
    · exact hs.nul k row' h xU
  · intro k row' hk xU
    rcases xY k row' hk with ⟨rfl, rfl⟩ | ⟨_, rfl, rfl⟩ | ⟨_, _, h⟩
    · obtain ⟨arr, h1, h2, h3⟩ := hs.obj _ row hb hn
      refine ⟨arr, h1, h2, fun i v hv => ?_⟩; simp only [List.getElem?_set] at hv
      split at hv
      · rename_i e
        subst e
        split at hv
        · simp only [Option.some.injEq] at hv
          subst hv; obtain ⟨x, h4, h5⟩ := h3 j _ hj; refine ⟨x, h4, ?_⟩; rw [VRep.p_eq h5]; exact .ownNil r sz
        · cases hv
      · grind
    · cases xU
    · obtain ⟨arr, h1, h2, h3⟩ := hs.obj k row' h xU
      refine ⟨arr, h1, h2, fun i v hv => ?_⟩; obtain ⟨x, h4, h5⟩ := h3 i v hv; exact ⟨x, h4, hm h5⟩
  · intro i v x h1 h2
    exact hm (hs.keep i v x h1 h2)
  · intro k k' row1 row2 h1 n1 h2 n2 h3
    rcases xY k row1 h1 with ⟨rfl, rfl⟩ | ⟨_, rfl, rfl⟩ | ⟨e1, _, h⟩ <;> rcases xY k' row2 h2 with ⟨rfl, rfl⟩ | ⟨_, rfl, rfl⟩ | ⟨e2, _, h'⟩
    · rfl
    · cases n2
    · exact hs.inj _ _ _ _ hb hn h' n2 h3
    · cases n1
    · cases n1
    · cases n1
    · exact hs.inj _ _ _ _ h n1 hb hn h3
    · cases n2
    · exact hs.inj _ _ _ _ h n1 h' n2 h3
  · intro k row' hk xU
    rcases xY k row' hk with ⟨rfl, rfl⟩ | ⟨_, rfl, rfl⟩ | ⟨_, _, h⟩
    · exact hs.base _ row hb hn
    · cases xU
    · exact hs.base k _ h xU
theorem qq {Q : Exit → S → Prop} {code : Code} (b j r sz : Nat) (ty : TypeId) (hb : fnd s.H b = some row) (hn : row.nil = false) (hj : row.cells[j]? = some .nil) (hr : s.clean r = true)
    (h : AW c code Q ⟨s.n, s.T, (b, { row with cells := row.cells.set j (.own r sz 0 true) }) :: (r, ⟨ty, [], true, sz⟩) :: s.H, s.K⟩) : AW c code Q s := fun g a w hs => h g a w (hs.adoptH hb hn hj hr)
theorem Sim.freezeH {g : Nat → Nat × Nat} {a : Act} {w : World} (hs : Sim c g s a w) {b j : Nat} {f : Bool} {rows : List (List D)} (hb : fnd s.H b = some row0) (hn0 : row0.nil = false) (hj : row0.cells[j]? = some (.own r sz n f)) (hbr : b ≠ r) (hr : fnd s.H r = some row) (hf : row.nil = f) (zI : rows.length = n) (hn : n * bt ≤ 140737488355328)
    (ww : ∀ (i j : Nat) (l : List D) (u : D), rows[i]? = some l → l[j]? = some u → row.cells[i * sz + j]? = some (.d u)) : Sim c g ⟨s.n, s.T, (b, { row0 with cells := row0.cells.set j (.d (.sl sz bt rows)) }) :: s.H.filter (fun x => x.1 != r), s.K⟩ a w := by
  have xY : ∀ k row', fnd ((b, { row0 with cells := row0.cells.set j (.d (.sl sz bt rows)) }) :: s.H.filter (fun x => x.1 != r)) k = some row' → k = b ∧ row' = { row0 with cells := row0.cells.set j (.d (.sl sz bt rows)) } ∨ k ≠ b ∧ k ≠ r ∧ fnd s.H k = some row' := by
    intro k row' hk
    by_cases e : k = b
    · subst e; simp [fnd] at hk; exact .inl ⟨rfl, hk.symm⟩
    · simp only [fnd, beq_iff_eq, Ne.symm e, if_false] at hk
      have e' : k ≠ r := by rintro rfl; rw [yj] at hk; cases hk
      rw [yA r _ _ e'] at hk; exact .inr ⟨e, e', hk⟩
  have hq : ∀ x, qt c s.H g x → x < w.heap.size → qt c ((b, { row0 with cells := row0.cells.set j (.d (.sl sz bt rows)) }) :: s.H.filter (fun x => x.1 != r)) g x := by
    intro x hx _; refine ⟨hx.1, fun k row' hk xU => ?_⟩
    rcases xY k row' hk with ⟨rfl, rfl⟩ | ⟨_, _, h⟩
    · exact hx.2 _ row0 hb hn0
    · exact hx.2 k row' h xU
  have hm : ∀ {v x}, VRep w (qt c s.H g) g v x → VRep w (qt c ((b, { row0 with cells := row0.cells.set j (.d (.sl sz bt rows)) }) :: s.H.filter (fun x => x.1 != r)) g) g v x := fun hv => hv.mono Cells.rfl hq (fun _ _ => rfl)
  refine ⟨hs.size, hs.defers, ?_, ?_, ?_, ?_, ?_, ?_, hs.low, hs.below⟩
  · intro i v hv
    obtain ⟨x, h1, h2⟩ := hs.tmp i v hv; exact ⟨x, h1, hm h2⟩
  · intro k row' hk xU
    rcases xY k row' hk with ⟨rfl, rfl⟩ | ⟨_, _, h⟩
    · simp only at xU; rw [hn0] at xU; cases xU
    · exact hs.nul k row' h xU
  · intro k row' hk xU
    rcases xY k row' hk with ⟨rfl, rfl⟩ | ⟨_, _, h⟩
    · obtain ⟨arr, h1, h2, h3⟩ := hs.obj _ row0 hb hn0
      refine ⟨arr, h1, h2, fun i v hv => ?_⟩; simp only [List.getElem?_set] at hv
      split at hv
      · rename_i e
        subst e
        split at hv
        · simp only [Option.some.injEq] at hv
          subst hv; obtain ⟨x, h4, h5⟩ := h3 j _ hj; refine ⟨x, h4, .d _ _ ?_⟩
          cases h5 with
          | own _ _ _ hle vK =>
            obtain ⟨ar2, h6, _, h7⟩ := hs.obj r row hr hf; subst zI
            have hob : ¬ c.out (g r).1 := fun h => by
              have h8 := hs.low _ h; have h9 := hs.base r row hr hf; omega
            refine .sl sz bt rows _ _ (g r).1 0 (fun i j => ar2.getD (i * sz + j) undef) hle (fun _ => ⟨rfl, ⟨hob, fun k row' hk xU e => ?_⟩, (Array.getElem?_eq_some_iff.1 h6).1⟩) hn ?_ ?_
            · rcases xY k row' hk with ⟨rfl, rfl⟩ | ⟨_, k1, k2⟩
              · exact hbr (hs.inj _ r _ _ hb hn0 hr hf e)
              · exact k1 (hs.inj k r _ _ k2 xU hr hf e)
            · intro i j l u hi hj
              obtain ⟨y, h8, h9⟩ := h7 _ _ (ww i j l u hi hj); rw [zero_add, cell_of_row w _ _ _ _ _ h6, h8]; simp [Array.getD_eq_getD_getElem?, h8]
            · intro i j l u hi hj
              obtain ⟨y, h8, h9⟩ := h7 _ _ (ww i j l u hi hj)
              cases hm h9 with
              | d _ _ h10 => simpa [Array.getD_eq_getD_getElem?, h8] using h10
          | ownNil =>
            have : rows = [] := by simpa using zI
            subst this
            exact .sl sz bt [] none 0 0 0 (fun _ _ => undef) (le_refl 0) (fun h => absurd rfl h) (by simp) (by simp) (by simp)
        · cases hv
      · grind
    · obtain ⟨arr, h1, h2, h3⟩ := hs.obj k row' h xU
      refine ⟨arr, h1, h2, fun i v hv => ?_⟩; obtain ⟨x, h4, h5⟩ := h3 i v hv; exact ⟨x, h4, hm h5⟩
  · intro i v x h1 h2
    exact hm (hs.keep i v x h1 h2)
  · intro k k' row1 row2 h1 n1 h2 n2 h3
    rcases xY k row1 h1 with ⟨rfl, rfl⟩ | ⟨e1, _, h⟩ <;> rcases xY k' row2 h2 with ⟨rfl, rfl⟩ | ⟨e2, _, h'⟩
    · rfl
    · exact hs.inj _ _ _ _ hb hn0 h' n2 h3
    · exact hs.inj _ _ _ _ h n1 hb hn0 h3
    · exact hs.inj _ _ _ _ h n1 h' n2 h3
  · intro k row' hk xU
    rcases xY k row' hk with ⟨rfl, rfl⟩ | ⟨_, _, h⟩
    · exact hs.base _ row0 hb hn0
    · exact hs.base k _ h xU
theorem qs {Q : Exit → S → Prop} {code : Code} (b j bt : Nat) {f : Bool} (rows : List (List D)) (hb : fnd s.H b = some row0) (hn0 : row0.nil = false) (hj : row0.cells[j]? = some (.own r sz n f)) (hbr : b ≠ r) (hr : fnd s.H r = some row) (hf : row.nil = f) (zI : rows.length = n) (hn : n * bt ≤ 140737488355328)
    (ww : ∀ (i j : Nat) (l : List D) (u : D), rows[i]? = some l → l[j]? = some u → row.cells[i * sz + j]? = some (.d u)) (h : AW c code Q ⟨s.n, s.T, (b, { row0 with cells := row0.cells.set j (.d (.sl sz bt rows)) }) :: s.H.filter (fun x => x.1 != r), s.K⟩) : AW c code Q s :=
  fun g a w hs => h g a w (hs.freezeH hb hn0 hj hbr hr hf zI hn ww)
theorem vx {l : List α} {enc : α → List D} (xz : ∀ x, (enc x).length = sz) {cells : List V} (h : cells = l.flatMap (fun x => (enc x).map V.d)) : ∀ (i j : Nat) (l' : List D) (u : D), (l.map enc)[i]? = some l' → l'[j]? = some u → cells[i * sz + j]? = some (.d u) := by
  intro i j l' u h1 h2; rw [List.getElem?_map] at h1
  cases h3 : l[i]? with
  | none => rw [h3] at h1; cases h1
  | some x =>
    rw [h3] at h1; simp only [map_some, Option.some.injEq] at h1; subst h1 h
    induction l generalizing i with
    | nil => simp at h3
    | cons y l ih =>
      rw [flatMap_cons]
      cases i with
      | zero =>
        simp at h3; subst h3; rw [Nat.zero_mul, zero_add, List.getElem?_append_left (by simp; exact (List.getElem?_eq_some_iff.1 h2).1)]; simp [h2]
      | succ i =>
        rw [List.getElem?_append_right (by simp [xz]; rw [succ_mul]; omega)]; simp only [length_map, xz]
        rw [show (i + 1) * sz + j - sz = i * sz + j by rw [succ_mul]; omega]
        exact ih i (by simpa using h3)
theorem vh {l : List α} {f : α → List V} (hf : ∀ x, (f x).length = sz) : (l.flatMap f).length = l.length * sz := by
  induction l with
  | nil => simp
  | cons x l ih => simp [ih, hf, succ_mul, Nat.add_comm]
theorem xK {t e : TypeId} {x y : Operand} {r r2 n m : Nat} {f : Bool} {row row2 : Row} {news : List V} (hu : c.P.underlying t = some (.slice e)) (hi : Inf c.P e sz bt z) (hzs : z.cells.size = sz) (xz : 0 < sz)
    (ho : o.op = .call { callee := .builtin .append, args := #[x, y], argTypes := #[t, t] }) (hx : s.ev x = some (.own r sz n f)) (hr : fnd s.H r = some row) (hf : row.nil = f) (hrz : row.sz = sz) (hty : row.ty = e)
    (hl1 : row.cells.length = n * sz) (hc1 : V.hasL r row.cells = false) (hy : s.ev y = some (.own r2 sz m false)) (hr2 : fnd s.H r2 = some row2) (hf2 : row2.nil = false) (uP : row2.cells.take (m * sz) = news) (hnl : news.length = m * sz) (hc2 : V.hasL r news = false) (uW : news.all V.one = true) (hm : 0 < m) (h63 : n + m ≤ 140737488355328) (hbt : (n + m) * bt ≤ 140737488355328) (hd : dok s o = true) :
    vm c o s (fun s' => s' = S.put ⟨s.n, (s.forget r).T, (r, ⟨e, row.cells ++ news, false, sz⟩) :: (s.forget r).H, (s.forget r).K⟩ o.dst (.own r sz (n + m) false)) :=
  jh5 hu hi hzs xz ho hx hr hf hrz hty (take_of_length_le (by omega)) hl1 hc1 hy hr2 hf2 uP hnl hc2 uW hm h63 hbt hd
@[simp] theorem zA (r : Nat) (l l' : List V) : V.hasL r (l ++ l') = (V.hasL r l || V.hasL r l') := by
  induction l with
  | nil => rfl
  | cons v l ih => simp [V.hasL, ih, Bool.or_assoc]
@[simp] theorem zE (r : Nat) (l : List α) (enc : α → List D) : V.hasL r (l.flatMap (fun x => (enc x).map V.d)) = false := by grind [V.hasL_false, V.has]
end
structure Wq (R : Prop) : Prop where
  o : R
section
variable {c : Cx} {s : S} {o : Oper} {Q : Exit → S → Prop} {ops : Array Oper} {l rest : List Oper} {x : Code} {v : V} {j : Nat} {b : Bool}
theorem gL (h : AL c ops (o :: rest) Q s) : AL c ops (o :: rest) Q s := h
theorem gN (h : AL c ops [] Q s) : AL c ops [] Q s := h
theorem gW (h : AW c x Q s) : AW c x Q s := h
theorem gD {need : Nat → Bool} {L : List (Nat × Bool)} (h : AD1 c ops Q need L s) : AD1 c ops Q need L s := h
theorem jQ (hg : o.guard = none) (hN : AL c ops rest Q (s.put o.dst v)) (h : RD c o s v := by exact zD) (hd : dok s o = true := by exact rfl) : AL c ops (o :: rest) Q s := AL.rd hg hd h hN
theorem jR (hg : o.guard = some (j, b)) (hy : yld ops s j = some b) (hN : AL c ops rest Q (s.put o.dst v)) (hd : dok s o = true := by exact rfl) (h : RD c o s v := by exact zD) : AL c ops (o :: rest) Q s := qU hg hy hd h hN
end
theorem Dv {G R : Prop} (n : R) (k : Wq R → G := by intro h; (first | ((with_reducible refine gL ?_); first | refine jQ rfl ?_ | refine jN ?_ | refine jS rfl rfl rfl rfl ?_ | refine jF rfl rfl rfl rfl ?_ | refine jR rfl rfl ?_) | ((with_reducible refine gN ?_); apply jE; try simp only [wY, nd, xg, V.cs, nz, Nat.reduceAdd, nm, ns, vV, ug, ↓reduceIte, Nat.reduceEqDiff]) | ((with_reducible refine gW ?_); first | apply qr | apply qg | refine jt rfl ?_ | refine js rfl ?_ | apply jq | apply j8 | (apply jo; try simp only [wY, nd, nz, vV, Nat.reduceAdd, ug, ↓reduceIte, Nat.reduceEqDiff]) | (refine jp ?_; try simp only [wY, nd, nz, vV, Nat.reduceAdd, ug, ↓reduceIte, Nat.reduceEqDiff]) | apply qM) | ((with_reducible refine gD ?_); first | refine jT rfl rfl rfl rfl rfl (fun _ _ h => h) ?_ | refine jH rfl rfl rfl rfl rfl (fun _ _ h => h) ?_ | refine jP ?_ | refine jO ?_) | (simp only [wY, nd, nz, vV, Nat.reduceAdd, ug, ↓reduceIte, Nat.reduceEqDiff]; (with_reducible refine gW ?_); first | apply qr | apply qg | refine jt rfl ?_ | refine js rfl ?_ | apply jq | apply j8 | (apply jo; try simp only [wY, nd, nz, vV, Nat.reduceAdd, ug, ↓reduceIte, Nat.reduceEqDiff]) | (refine jp ?_; try simp only [wY, nd, nz, vV, Nat.reduceAdd, ug, ↓reduceIte, Nat.reduceEqDiff]) | apply qM)); exact h.o) : G := k ⟨n⟩
theorem zG {P : Program} {fn : Func} {code : Code} {n : Nat} {rs : List ResultVar} (h : P.funcs[f]? = some fn) (h1 : (fn.name == "runtime.NumGoroutine") = false := by exact rfl) (h2 : fn.body = some code := by exact rfl) (h3 : fn.ntmps = n := by exact rfl) (h4 : fn.results = rs.toArray := by exact rfl) : Is P f fn code n rs := ⟨h, h1, h2, h3, h4⟩
theorem zF {P : Program} {fn : Func} (h : Is P f fn code n rs := by first | exact zG Tryz.func4 | exact zG Tryz.func5 | exact zG Tryz.func6 | exact zG Tryz.func7 | exact zG Tryz.func8 | exact zG Tryz.func9 | exact zG Tryz.func10 | exact zG Tryz.func11 | exact zG Tryz.func12 | exact zG Tryz.func13 | exact zG Tryz.func14 | exact zG Tryz.func15 | exact zG Tryz.func16 | exact zG Tryz.func17 | exact zG Tryz.func19 | exact zG Tryz.func20 | exact zG Tryz.func21 | exact zG Tryz.func22 | exact zG Tryz.func23 | exact zG Tryz.func24 | exact zG Tryz.func25 | exact zG Tryz.func26 | exact zG Tryz.func27 | exact zG Tryz.func28 | exact zG Tryz.func29 | exact zG Tryz.func30 | exact zG Tryz.func31 | exact zG Tryz.func32 | exact zG Tryz.func33 | exact zG Tryz.func34 | exact zG Tryz.func35 | exact zG Tryz.func40 | exact zG Tryz.func41 | exact zG Tryz.func42 | exact zG Tryz.func43 | exact zG Tryz.func44 | exact zG Tryz.func45 | exact zG Tryz.func46 | exact zG Tryz.func47 | exact zG Tryz.func49 | exact zG Tryz.func50 | exact zG Tryz.func51 | exact zG Tryz.func52 | exact zG Tryz.func53 | exact zG Tryz.func54 | exact zG Tryz.func55 | exact zG Tryz.func56 | exact zG Tryz.func57 | exact zG Tryz.func59 | exact zG Tryz.func60 | exact zG Tryz.func61 | exact zG Tryz.func62 | exact zG Tryz.func63 | exact zG Tryz.func64 | exact zG Tryz.func65 | exact zG Tryz.func66 | exact zG Tryz.func67 | exact zG Tryz.func68 | exact zG Tryz.func69 | exact zG Tryz.func70 | exact zG Tryz.func71 | exact zG Tryz.func72 | exact zG Tryz.func73 | exact zG Tryz.func86 | exact zG Tryz.func87 | exact zG Tryz.func88 | exact zG Tryz.func89 | exact zG Tryz.func90 | exact zG Tryz.func91 | exact zG Tryz.func92 | exact zG Tryz.func93 | exact zG Tryz.func94 | exact zG Tryz.func95 | exact zG Tryz.func96 | exact zG Tryz.func99 | exact zG Tryz.func100 | exact zG Tryz.func101 | exact zG Tryz.func102) : Is P f fn code n rs := h
theorem qc {P : Program} {fn : Func} {args : List V} {post : V → Prop} (n : Nat) (h : ∀ w0 out, AW ⟨P, w0, out, [], []⟩ code (QF P rs post) ⟨n, vV 0 args, [], []⟩) (hf : Is P f fn code n rs := by exact zF) (hp : ∀ v ∈ args, v.pure := by simp [V.pure, V.has, V.hasL]) (hn : args.length ≤ n := by simp) : Fn P f args post := Fn.intro hf hp hn h
theorem zM {p : Prop} (h : p := by simp [S.nat, fnd]; omega) : p := h
theorem zU0 {p : Prop} (h : p := by simp [zZ, V.pure, V.has, V.hasL]) : p := h
theorem zU1 {p : Prop} (h : p := by exact ⟨⟨2, 0, _, _, rfl, rfl, rfl, Tryz.underlying24, .inr ⟨rfl, _, _, _, _, xN, rfl, rfl, rfl⟩⟩, rfl, trivial⟩) : p := h
theorem zU2 {p : Prop} (h : p := by simp [zZ, V.pure, V.has]) : p := h
theorem zU3 {p : Prop} (h : p := by exact ⟨⟨2, 0, _, _, rfl, rfl, rfl, Tryz.underlying24, .inr ⟨rfl, _, _, _, _, xN, rfl, rfl, rfl⟩⟩, rfl, rfl, trivial⟩) : p := h
theorem zU4 {p : Prop} (h : p := by exact ⟨rfl, rfl, trivial⟩) : p := h
theorem zU5 {p : Prop} (h : p := by exact ⟨⟨2, 0, _, _, rfl, rfl, rfl, Tryz.underlying37, .inr ⟨rfl, _, _, _, _, q80, rfl, rfl, rfl⟩⟩, rfl, trivial⟩) : p := h
theorem zU6 {p : Prop} (h : p := by exact ⟨⟨2, 0, _, _, rfl, rfl, rfl, Tryz.underlying53, .inr ⟨rfl, _, _, _, _, gZ, rfl, rfl, rfl⟩⟩, rfl, trivial⟩) : p := h
theorem zU7 {p : Prop} (h : p := by exact ⟨⟨4, 0, _, _, rfl, rfl, rfl, Tryz.underlying24, .inr ⟨rfl, _, _, _, _, xN, rfl, rfl, rfl⟩⟩, rfl, trivial⟩) : p := h
theorem zU8 {p : Prop} (h : p := by exact .inl ⟨by decide, rfl⟩) : p := h
section
variable {c : Cx} {s : S} {o : Oper} {Q : Exit → S → Prop} {ops : Array Oper} {rest : List Oper}
theorem qa {fx : Operand} {xs : Array Operand} {ts : Array TypeId} {fn : Func} {args : List V} {y : V} (xY : Fn c.P f args (fun v => v = y)) (hN : AL c ops rest Q (s.put o.dst y)) (hf : Is c.P f fn code n rs := by exact zF) (hg : o.guard = none := by exact rfl) (ho : o.op = .call { callee := .value fx, args := xs, argTypes := ts } := by exact rfl) (wc : s.ev fx = some (.fn f []) := by exact rfl) (xJ : xs.toList.map s.ev = args.map some := by exact rfl) (hd : dok s o = true := by exact rfl) : AL c ops (o :: rest) Q s := qh hg (zS xY hf ho wc xJ hd) fun v hv _ => by rw [hv]; exact hN
end
inductive Ro (s : S) : V → V → Prop
  | refl (v : V) (hv : v.pure) : Ro s v v
  | ref (r k : Nat) (row : Row) (l : List D) (hr : fnd s.H r = some row) (hn : row.nil = false) (hl : row.cells.drop k = l.map V.d) : Ro s (.ref r k) (.ad l)
  | own (r sz n bt : Nat) (f : Bool) (row : Row) (rows : List (List D)) (hr : fnd s.H r = some row) (hf : row.nil = f) (zI : rows.length = n) (hn : n * bt ≤ 140737488355328)
      (ww : ∀ (i j : Nat) (l : List D) (u : D), rows[i]? = some l → l[j]? = some u → row.cells[i * sz + j]? = some (.d u)) : Ro s (.own r sz n f) (.d (.sl sz bt rows))
  | fn (f : FuncId) (us vs : List V) (hl : us.length = vs.length) (h : ∀ (j : Nat) (u v : V), us[j]? = some u → vs[j]? = some v → Ro s u v) : Ro s (.fn f us) (.fn f vs)
inductive Ros (s : S) : List V → List V → Prop
  | nil : Ros s [] []
  | cons {u v : V} {us vs : List V} (h : Ro s u v) (hs : Ros s us vs) : Ros s (u :: us) (v :: vs)
theorem Ros.get {s : S} {us vs : List V} (h : Ros s us vs) : us.length = vs.length ∧ ∀ (j : Nat) (u v : V), us[j]? = some u → vs[j]? = some v → Ro s u v := by
  induction h with
  | nil => exact ⟨rfl, by simp⟩
  | cons h hs ih =>
    refine ⟨by simp [ih.1], fun j u v hu hv => ?_⟩
    cases j with
    | zero => simp at hu hv; subst hu hv; exact h
    | succ j => exact ih.2 j u v (by simpa using hu) (by simpa using hv)
theorem Ro.fns {s : S} {us vs : List V} (h : Ros s us vs) : Ro s (.fn f us) (.fn f vs) := .fn f us vs h.get.1 h.get.2
def V.plain : V → Prop
  | .d (.p _) => True
  | .tup l => ∀ v ∈ l, ∃ x, v = .d (.p x)
  | .agg l => ∀ v ∈ l, ∃ x, v = .d (.p x)
  | _ => False
section
variable {c : Cx} {s : S} {o : Oper} {g : Nat → Nat × Nat} {a : Act} {w : World}
theorem Ro.rep (hs : Sim c g s a w) {u v : V} (h : Ro s u v) : ∀ {x : Value}, VRep w (qt c s.H g) g u x → VRep w (fun b => ¬ c.out b) g v x := by
  have hq : ∀ b, qt c s.H g b → b < w.heap.size → ¬ c.out b := fun b hb _ => hb.1
  have hm : ∀ {v x}, VRep w (qt c s.H g) g v x → VRep w (fun b => ¬ c.out b) g v x := fun hv => hv.mono Cells.rfl hq (fun _ _ => rfl)
  have hob : ∀ r row, fnd s.H r = some row → row.nil = false → ¬ c.out (g r).1 := fun r row hr hn h => by
    have h1 := hs.low _ h; have h2 := hs.base r row hr hn; omega
  induction h with
  | refl v hv => intro x hx; exact hm hx
  | ref r k row l hr hn hl =>
    intro x hx
    cases hx
    obtain ⟨arr, h1, _, h2⟩ := hs.obj r row hr hn
    have hat : ∀ (j : Nat) (u : D), l[j]? = some u → row.cells[k + j]? = some (.d u) := by
      intro j u hu; have : (row.cells.drop k)[j]? = some (.d u) := by rw [hl]; simp [hu]
      simpa using this
    refine .ad l (g r).1 k (fun j => arr.getD (k + j) undef) ⟨hob r row hr hn, (Array.getElem?_eq_some_iff.1 h1).1⟩ (fun j u hu => ?_) (fun j u hu => ?_)
    · obtain ⟨y, h3, _⟩ := h2 _ _ (hat j u hu)
      rw [cell_of_row w _ _ _ _ _ h1, h3]; simp [Array.getD_eq_getD_getElem?, h3]
    · obtain ⟨y, h3, h4⟩ := h2 _ _ (hat j u hu)
      cases hm h4 with
      | d _ _ h5 => simpa [Array.getD_eq_getD_getElem?, h3] using h5
  | own r sz n bt f row rows hr hf zI hn ww =>
    intro x hx; refine .d _ _ ?_
    cases hx with
    | own _ _ _ hle vK =>
      obtain ⟨arr, h1, _, h2⟩ := hs.obj r row hr hf; subst zI; refine .sl sz bt rows _ _ (g r).1 0 (fun i j => arr.getD (i * sz + j) undef) (by omega) (fun _ => ⟨rfl, hob r row hr hf, (Array.getElem?_eq_some_iff.1 h1).1⟩) hn ?_ ?_
      · intro i j l u hi hj
        obtain ⟨y, h3, _⟩ := h2 _ _ (ww i j l u hi hj); rw [zero_add, cell_of_row w _ _ _ _ _ h1, h3]; simp [Array.getD_eq_getD_getElem?, h3]
      · intro i j l u hi hj
        obtain ⟨y, h3, h4⟩ := h2 _ _ (ww i j l u hi hj)
        cases hm h4 with
        | d _ _ h5 => simpa [Array.getD_eq_getD_getElem?, h3] using h5
    | ownNil =>
      have : rows = [] := by simpa using zI
      subst this
      exact .sl sz bt [] none 0 0 0 (fun _ _ => undef) (le_refl 0) (fun h => absurd rfl h) (by simp) (by simp) (by simp)
  | fn f us vs hl h ih =>
    intro x hx
    cases hx with
    | fn _ _ cs zI hh =>
      refine .fn f vs cs (by omega) fun j v y hv hy => ?_; have hj : j < us.length := by rw [hl]; exact (List.getElem?_eq_some_iff.1 hv).1
      exact ih j us[j] v (List.getElem?_eq_getElem hj) hv (hh j us[j] y (List.getElem?_eq_getElem hj) hy)
theorem bI (hs : Sim c g s a w) {caps : List V} (wc : s.ev fx = some (.fn f caps)) : ∃ cs : List Value, a.eval fx = .func (.func f) #[] cs.toArray ∧ caps.length = cs.length ∧ ∀ (j : Nat) (u : V) (y : Value), caps[j]? = some u → cs[j]? = some y → VRep w (qt c s.H g) g u y := by
  have hfv := hs.ev wc; generalize a.eval fx = u at hfv
  cases hfv with
  | fn _ _ cs hl h => exact ⟨cs, rfl, hl, h⟩
theorem uv (hs : Sim c g s a w) {xs : Array Operand} {ars : List V} (xJ : xs.toList.map s.ev = ars.map some) : ars.length = (xs.toList.map a.eval).length ∧ ∀ (j : Nat) (u : V) (y : Value), ars[j]? = some u → (xs.toList.map a.eval)[j]? = some y → VRep w (qt c s.H g) g u y := by
  refine ⟨by simpa using (congrArg List.length xJ).symm, fun j u y hu hy => ?_⟩; have h1 := congrArg (fun l => l[j]?) xJ; simp only [List.getElem?_map, hu, map_some] at h1 hy
  cases h2 : xs.toList[j]? with
  | none => rw [h2] at h1; cases h1
  | some p =>
    rw [h2] at h1 hy; simp only [map_some, Option.some.injEq] at h1 hy; subst hy; exact hs.ev h1
theorem gB {fx : Operand} {xs : Array Operand} {ts : Array TypeId} {fn : Func} {us caps args : List V} {post : V → Prop} (xY : Fn c.P f args post) (wl : ∀ v, post v → v.plain) (hf : Is c.P f fn code n rs) (ho : o.op = .call { callee := .value fx, args := xs, argTypes := ts })
    (wc : s.ev fx = some (.fn f caps)) (xJ : xs.toList.map s.ev = us.map some) (hro : Ros s (us ++ caps) args) (hd : dok s o = true) : StepM c o s (fun s' => ∃ v, post v ∧ v.pure ∧ s' = s.put o.dst v) := by
  intro g a w hs K Q hK; obtain ⟨cs, uY, xM, hcr⟩ := bI hs wc; obtain ⟨wm, har⟩ := uv hs xJ; obtain ⟨hrl, hrr⟩ := hro.get
  have hx : y9 w (fun b => ¬ c.out b) g args ((xs.toList.map a.eval) ++ cs) := by
    refine ⟨by rw [← hrl]; simp at wm ⊢; omega, fun j v y hv hy => ?_⟩; have hj : j < (us ++ caps).length := by rw [hrl]; exact (List.getElem?_eq_some_iff.1 hv).1
    have hu := List.getElem?_eq_getElem hj; refine (hrr j _ v hu hv).rep hs ?_
    by_cases h1 : j < us.length
    · grind
    · grind
  unfold Oper.wp; rw [wj (caps := cs) hf ho uY]; simp only [Oper.upon]; refine (xY w c.out g _ (fun b h => lt_of_lt_of_le (hs.low b h) hs.below.size) hx).mono ?_; rintro e w' ⟨v, x, rfl, h1, h2, h3, h4⟩; refine hK g _ _ _ ⟨v, h1, h2, rfl⟩ ((hs.move h4).put o.dst (zJ hd) ?_) h4; have hp := wl v h1
  have hdp : ∀ {y z}, VRep w' (fun b => ¬ c.out b) g (.d (.p y)) z → VRep w' (qt c s.H g) g (.d (.p y)) z := fun h => by
    rw [VRep.p_eq h]; exact .d _ _ (.p _)
  cases v with
  | d dx =>
    cases dx with
    | p => exact hdp h3
    | sl => exact hp.elim
    | mp => exact hp.elim
    | mm => exact hp.elim
  | tup l =>
    cases h3 with
    | tup _ cs' hl hh =>
      refine .tup l cs' hl fun j u z hu hz => ?_; obtain ⟨y, rfl⟩ := hp u (mem_of_getElem? hu); exact hdp (hh j _ z hu hz)
  | agg l =>
    cases h3 with
    | agg _ cs' hl hh =>
      refine .agg l cs' hl fun j u z hu hz => ?_; obtain ⟨y, rfl⟩ := hp u (mem_of_getElem? hu); exact hdp (hh j _ z hu hz)
  | _ => exact hp.elim
theorem wf {fx : Operand} {xs : Array Operand} {ts : Array TypeId} {fn : Func} {args caps : List V} {post : V → Prop} (xY : Fn c.P f (args ++ caps) post) (hf : Is c.P f fn code n rs) (ho : o.op = .call { callee := .value fx, args := xs, argTypes := ts })
    (wc : s.ev fx = some (.fn f caps)) (xJ : xs.toList.map s.ev = args.map some) (hd : dok s o = true) : StepM c o s (fun s' => ∃ v, post v ∧ v.pure ∧ s' = s.put o.dst v) := by
  intro g a w hs K Q hK; obtain ⟨cs, uY, xM, hcr⟩ := bI hs wc; obtain ⟨wm, har⟩ := uv hs xJ
  have hx : y9 w (fun b => ¬ ¬ qt c s.H g b) g (args ++ caps) ((xs.toList.map a.eval) ++ cs) := by
    refine ⟨by simp at wm ⊢; omega, fun j u y hu hy => ?_⟩
    have hm : ∀ {v x}, VRep w (qt c s.H g) g v x → VRep w (fun b => ¬ ¬ qt c s.H g b) g v x := fun hv => hv.mono Cells.rfl (fun b hb _ => not_not_intro hb) (fun _ _ => rfl)
    refine hm ?_
    by_cases h1 : j < args.length
    · grind
    · grind
  unfold Oper.wp; rw [wj (caps := cs) hf ho uY]; simp only [Oper.upon]; refine (xY w (fun b => ¬ qt c s.H g b) g _ ?_ hx).mono ?_
  · intro b hb
    rcases Classical.em (c.out b) with h | h
    · exact lt_of_lt_of_le (hs.low b h) hs.below.size
    · rcases Classical.em (∃ r row, fnd s.H r = some row ∧ row.nil = false ∧ (g r).1 = b) with ⟨r, row, h1, h2, rfl⟩ | h'
      · obtain ⟨arr, h3, _⟩ := hs.obj r row h1 h2
        exact (Array.getElem?_eq_some_iff.1 h3).1
      · exact absurd ⟨h, fun r row h1 h2 h3 => h' ⟨r, row, h1, h2, h3⟩⟩ hb
  · rintro e w' ⟨v, x, rfl, h1, h2, h3, h4⟩
    refine hK g _ _ _ ⟨v, h1, h2, rfl⟩ ((hs.move h4).put o.dst (zJ hd) ?_) h4
    exact h3.mono Cells.rfl (fun b hb _ => Classical.not_not.1 hb) (fun r _ => rfl)
end
section
variable {c : Cx} {s : S} {o : Oper}
theorem qP4 {fx : Operand} {xs : Array Operand} {ts : Array TypeId} {fn : Func} {args : List V} {post : V → Prop} (xY : Fn c.P f args post) (wl : ∀ v, post v → v.plain) (hf : Is c.P f fn code n rs) (ho : o.op = .call { callee := .value fx, args := xs, argTypes := ts })
    (wc : s.ev fx = some (.fn f [])) (hro : ∀ g a w, Sim c g s a w → y9 w (fun b => ¬ c.out b) g args (xs.toList.map a.eval)) (hd : dok s o = true) : StepM c o s (fun s' => ∃ v, post v ∧ v.pure ∧ s' = s.put o.dst v) := by
  intro g a w hs K Q hK; obtain ⟨cs, uY, xM, hcr⟩ := bI hs wc; obtain rfl : cs = [] := by cases cs with | nil => rfl | cons => simp at xM
  unfold Oper.wp; rw [wj (caps := []) hf ho uY]; simp only [Oper.upon, append_nil]; refine (xY w c.out g _ (fun b h => lt_of_lt_of_le (hs.low b h) hs.below.size) (hro g a w hs)).mono ?_; rintro e w' ⟨v, x, rfl, h1, h2, h3, h4⟩; refine hK g _ _ _ ⟨v, h1, h2, rfl⟩ ((hs.move h4).put o.dst (zJ hd) ?_) h4; have hp := wl v h1
  have hdp : ∀ {y z}, VRep w' (fun b => ¬ c.out b) g (.d (.p y)) z → VRep w' (qt c s.H g) g (.d (.p y)) z := fun h => by
    rw [VRep.p_eq h]; exact .d _ _ (.p _)
  cases v with
  | d dx =>
    cases dx with
    | p => exact hdp h3
    | sl => exact hp.elim
    | mp => exact hp.elim
    | mm => exact hp.elim
  | tup l =>
    cases h3 with
    | tup _ cs' hl hh =>
      refine .tup l cs' hl fun j u z hu hz => ?_; obtain ⟨y, rfl⟩ := hp u (mem_of_getElem? hu); exact hdp (hh j _ z hu hz)
  | agg l =>
    cases h3 with
    | agg _ cs' hl hh =>
      refine .agg l cs' hl fun j u z hu hz => ?_; obtain ⟨y, rfl⟩ := hp u (mem_of_getElem? hu); exact hdp (hh j _ z hu hz)
  | _ => exact hp.elim
end
end Go.Proofs.YthiknkcigcglkaaGreatDoor
