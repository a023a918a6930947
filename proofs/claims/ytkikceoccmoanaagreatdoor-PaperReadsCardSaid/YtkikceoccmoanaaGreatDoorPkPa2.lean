/- Part 2 of what the law PaperReads rests on. -/
import Derived.RangeFuncLeaves
import Derived.RangeFuncRecord
import Derived.TacticsIn
import Derived.Laws.BytesArg
import Derived.Laws.BitsAllLaws
import Derived.Test.YtkikceoccmoanaaGreatDoorPkPa1
namespace Go.Proofs.YtkikceoccmoanaaGreatDoor
open Go.RowKit
set_option linter.unusedSimpArgs false
set_option linter.unusedVariables false

section
variable {c : Cx} {s : S} {o : Oper} {α : Type}

theorem rp_b {b b' : Bool} (h : RP c o s (.b b)) (e : b = b') : RP c o s (.b b') := by subst e; exact h
theorem rp_eqlT {t t' : TypeId} {x y : Operand} {k : IntKind} {m n : Int} (ho : o.op = .binOp .eql t x y t') (hx : s.ev x = some (.d (.p (.int k m)))) (hy : s.ev y = some (.d (.p (.int k n)))) (h : m = n) : RP c o s (.b true) := rp_b (rp_eql ho hx hy) (by simp [h])
theorem rp_eqlF {t t' : TypeId} {x y : Operand} {k : IntKind} {m n : Int} (ho : o.op = .binOp .eql t x y t') (hx : s.ev x = some (.d (.p (.int k m)))) (hy : s.ev y = some (.d (.p (.int k n)))) (h : ¬ m = n) : RP c o s (.b false) := rp_b (rp_eql ho hx hy) (by simp [h])
theorem rp_neqT {t t' : TypeId} {x y : Operand} {k : IntKind} {m n : Int} (ho : o.op = .binOp .neq t x y t') (hx : s.ev x = some (.d (.p (.int k m)))) (hy : s.ev y = some (.d (.p (.int k n)))) (h : ¬ m = n) : RP c o s (.b true) := rp_b (rp_neq ho hx hy) (by simp [h])
theorem rp_neqF {t t' : TypeId} {x y : Operand} {k : IntKind} {m n : Int} (ho : o.op = .binOp .neq t x y t') (hx : s.ev x = some (.d (.p (.int k m)))) (hy : s.ev y = some (.d (.p (.int k n)))) (h : m = n) : RP c o s (.b false) := rp_b (rp_neq ho hx hy) (by simp [h])
theorem rp_lssT {t t' : TypeId} {x y : Operand} {k : IntKind} {m n : Int} (ho : o.op = .binOp .lss t x y t') (hx : s.ev x = some (.d (.p (.int k m)))) (hy : s.ev y = some (.d (.p (.int k n)))) (h : m < n) : RP c o s (.b true) := rp_b (rp_lss ho hx hy) (by simp [h])
theorem rp_lssF {t t' : TypeId} {x y : Operand} {k : IntKind} {m n : Int} (ho : o.op = .binOp .lss t x y t') (hx : s.ev x = some (.d (.p (.int k m)))) (hy : s.ev y = some (.d (.p (.int k n)))) (h : ¬ m < n) : RP c o s (.b false) := rp_b (rp_lss ho hx hy) (by simpa using h)
theorem rp_leqT {t t' : TypeId} {x y : Operand} {k : IntKind} {m n : Int} (ho : o.op = .binOp .leq t x y t') (hx : s.ev x = some (.d (.p (.int k m)))) (hy : s.ev y = some (.d (.p (.int k n)))) (h : m ≤ n) : RP c o s (.b true) := rp_b (rp_leq ho hx hy) (by simp [h])
theorem rp_leqF {t t' : TypeId} {x y : Operand} {k : IntKind} {m n : Int} (ho : o.op = .binOp .leq t x y t') (hx : s.ev x = some (.d (.p (.int k m)))) (hy : s.ev y = some (.d (.p (.int k n)))) (h : ¬ m ≤ n) : RP c o s (.b false) := rp_b (rp_leq ho hx hy) (by simpa using h)
theorem rp_gtrT {t t' : TypeId} {x y : Operand} {k : IntKind} {m n : Int} (ho : o.op = .binOp .gtr t x y t') (hx : s.ev x = some (.d (.p (.int k m)))) (hy : s.ev y = some (.d (.p (.int k n)))) (h : n < m) : RP c o s (.b true) := rp_b (rp_gtr ho hx hy) (by simp [h])
theorem rp_gtrF {t t' : TypeId} {x y : Operand} {k : IntKind} {m n : Int} (ho : o.op = .binOp .gtr t x y t') (hx : s.ev x = some (.d (.p (.int k m)))) (hy : s.ev y = some (.d (.p (.int k n)))) (h : ¬ n < m) : RP c o s (.b false) := rp_b (rp_gtr ho hx hy) (by simpa using h)
theorem rp_geqT {t t' : TypeId} {x y : Operand} {k : IntKind} {m n : Int} (ho : o.op = .binOp .geq t x y t') (hx : s.ev x = some (.d (.p (.int k m)))) (hy : s.ev y = some (.d (.p (.int k n)))) (h : n ≤ m) : RP c o s (.b true) := rp_b (rp_geq ho hx hy) (by simp [h])
theorem rp_geqF {t t' : TypeId} {x y : Operand} {k : IntKind} {m n : Int} (ho : o.op = .binOp .geq t x y t') (hx : s.ev x = some (.d (.p (.int k m)))) (hy : s.ev y = some (.d (.p (.int k n)))) (h : ¬ n ≤ m) : RP c o s (.b false) := rp_b (rp_geq ho hx hy) (by simpa using h)

theorem Fn.decT {P : Program} {f : FuncId} {args : List V} {p : Prop} [Decidable p] (h : Fn P f args (fun v => v = .b (decide p))) (hp : p) : Fn P f args (fun v => v = .b true) := h.mono fun v hv => by rw [hv, decide_eq_true hp]
theorem Fn.decF {P : Program} {f : FuncId} {args : List V} {p : Prop} [Decidable p] (h : Fn P f args (fun v => v = .b (decide p))) (hp : ¬ p) : Fn P f args (fun v => v = .b false) := h.mono fun v hv => by rw [hv, decide_eq_false hp]
theorem AW.condT {Q : Exit → S → Prop} {x : Operand} {t e : Code} (hc : s.ev x = some (.b true)) (h : AW c t Q s) : AW c (.cond x t e) Q s := AW.cond hc (fun _ => h) (fun h' => by cases h')
theorem AW.condF {Q : Exit → S → Prop} {x : Operand} {t e : Code} (hc : s.ev x = some (.b false)) (h : AW c e Q s) : AW c (.cond x t e) Q s := AW.cond hc (fun h' => by cases h') (fun _ => h)

/-- An element of a slice that is told by a list. -/
theorem rp_index_map {t e : TypeId} {x i : Operand} {sz bt bt' k : Nat} {z : Value} {l : List α} {f : α → List D} {y : α} {n' : Int} {kd : IntKind} (hu : c.P.underlying t = some (.slice e)) (hi : Inf c.P e sz bt z) (ho : o.op = .indexAddr t x i) (hx : s.ev x = some (.d (.sl sz bt' (l.map f)))) (hy : s.ev i = some (.d (.p (.int kd n'))))
    (hk : n' = (k : Int)) (hl : l[k]? = some y) : RP c o s (.ad (f y)) := rd_index_sl hu hi ho hx hy hk (by simp [hl])
theorem rp_len_map {t e : TypeId} {x : Operand} {sz bt' n : Nat} {l : List α} {f : α → List D} (hu : c.P.underlying t = some (.slice e)) (ho : o.op = .call { callee := .builtin .len, args := #[x], argTypes := #[t] }) (hx : s.ev x = some (.d (.sl sz bt' (l.map f)))) (hl : l.length = n) : RP c o s (.i (n : Int)) := by
  have := rp_len_sl hu ho hx
  rwa [List.length_map, hl] at this
/-- A cell of an object that is told by a list. -/
theorem rd_load_map {t : TypeId} {d : TypeDesc} {x : Operand} {r k : Nat} {row : Row} {l : List α} {f : α → V} {y : α} (hu : c.P.underlying t = some d) (hd : isAggD d = false) (ho : o.op = .load t x) (hx : s.ev x = some (.ref r (k * 1))) (hr : fnd s.H r = some row) (hn : row.nil = false) (hf : row.cells = l.map f) (hl : l[k]? = some y) : RD c o s (f y) :=
  rd_load_ref hu hd ho hx hr hn (by rw [hf]; simp [hl])
theorem st_store_map {t : TypeId} {bt : Nat} {z : Value} {x y : Operand} {r k : Nat} {row : Row} {l : List α} {f : α → V} {v : α} (hi : Inf c.P t 1 bt z) (ho : o.op = .store t x y) (hd : o.dst = none) (hx : s.ev x = some (.ref r (k * 1))) (hy : s.ev y = some (f v)) (hr : fnd s.H r = some row) (hn : row.nil = false)
    (hf : row.cells = l.map f) (hok : (f v).one = true) (hfit : k < l.length) : Step c o s (fun s' => s' = { s with H := (r, { row with cells := (l.set k v).map f }) :: s.H }) :=
  st_store hi ho hd hx hy hr hn hok (by rw [hf]; simpa using hfit) (by rw [hf, List.map_set, Nat.mul_one])
theorem AW.bound {Q : Exit → S → Prop} {code : Code} (x : Operand) {sz bt : Nat} {rows : List (List D)} (hx : s.ev x = some (.d (.sl sz bt rows))) (h : rows.length * bt ≤ 140737488355328 → AW c code Q s) : AW c code Q s := fun g a w hs => by
  have hv := hs.ev hx
  generalize a.eval x = y at hv
  cases hv with
  | d _ _ hd =>
    cases hd with
    | sl _ _ _ _ _ _ _ _ _ _ hl => exact h hl g a w hs
def LT (s : S) : List (Nat × V) → Prop
  | [] => True
  | (i, v) :: r => (∃ u, fnd s.T i = some u ∧ Wk v u) ∧ LT s r
def LH (s : S) : List (Nat × Row) → Prop
  | [] => True
  | (i, row) :: r => fnd s.H i = some row ∧ LH s r
theorem LT.get {s : S} : ∀ {l : List (Nat × V)}, LT s l → ∀ (i : Nat) (v : V), fnd l i = some v → ∃ u, fnd s.T i = some u ∧ Wk v u
  | [], _, i, v, h => by simp [fnd] at h
  | (k, u) :: r, hl, i, v, h => by
    simp only [fnd] at h
    split at h
    · rename_i e
      simp only [beq_iff_eq] at e
      subst e
      simp only [Option.some.injEq] at h
      subst h
      exact hl.1
    · exact LT.get hl.2 i v h
theorem LH.get {s : S} : ∀ {l : List (Nat × Row)}, LH s l → ∀ (i : Nat) (v : Row), fnd l i = some v → fnd s.H i = some v
  | [], _, i, v, h => by simp [fnd] at h
  | (k, u) :: r, hl, i, v, h => by
    simp only [fnd] at h
    split at h
    · rename_i e
      simp only [beq_iff_eq] at e
      subst e
      simp only [Option.some.injEq] at h
      subst h
      exact hl.1
    · exact LH.get hl.2 i v h
theorem Less.of {s' s : S} (hn : s'.n = s.n) (hT : LT s s'.T) (hH : LH s s'.H) (hK : s'.K = s.K) : Less s' s :=
  ⟨hn, fun i v h => hT.get i v h, fun r row h => ⟨row, hH.get r row h, rfl, rfl, rfl, fun j v hv => ⟨v, hv, .refl _⟩⟩, fun j v h => ⟨v, by rw [← hK]; exact h, .refl _⟩⟩
/-- The number in a temporary. -/
def S.nat (s : S) (t : Nat) : Nat :=
  match fnd s.T t with
  | some (.d (.p (.int _ n))) => n.toNat
  | _ => 0
@[simp] theorem hasL_d (r : Nat) (l : List α) (f : α → D) : V.hasL r (l.map (fun x => V.d (f x))) = false := by simp [V.hasL_false, V.has]
@[simp] theorem hasL_i (r : Nat) (l : List Int) : V.hasL r (l.map V.i) = false := by simp [V.hasL_false, V.has]
@[simp] theorem hasL_b (r : Nat) (l : List Bool) : V.hasL r (l.map V.b) = false := by simp [V.hasL_false, V.has]
@[simp] theorem hasL_s (r : Nat) (l : List ByteArray) : V.hasL r (l.map V.s) = false := by simp [V.hasL_false, V.has]
abbrev V.n (x : Nat) : V := V.i (x : Int)
@[simp] theorem hasL_n (r : Nat) (l : List Nat) : V.hasL r (l.map V.n) = false := by simp [V.hasL_false, V.has]
@[simp] theorem hasL_rep (r n : Nat) (x : D) : V.hasL r (List.replicate n (V.d x)) = false := by simp [V.hasL_false, V.has]
theorem AL.sm {Q : Exit → S → Prop} {ops : Array Oper} {rest : List Oper} {X : S} (hg : o.guard = none) (h : StepM c o s (fun s' => s' = X)) (hN : AL c ops rest Q X) : AL c ops (o :: rest) Q s :=
  AL.stepM hg fun g a w hs K Q' hK => h g a w hs K Q' fun g' s' a' w' e h1 h2 => hK g' s' a' w' (by subst e; exact hN) h1 h2
theorem AL.st {Q : Exit → S → Prop} {ops : Array Oper} {rest : List Oper} {X : S} (hg : o.guard = none) (h : Step c o s (fun s' => s' = X)) (hN : AL c ops rest Q X) : AL c ops (o :: rest) Q s :=
  AL.step hg fun g a w hs K Q' hK => h g a w hs K Q' fun g' s' a' w' e h1 => hK g' s' a' w' (by subst e; exact hN) h1
theorem AL.call {Q : Exit → S → Prop} {ops : Array Oper} {rest : List Oper} {post : V → Prop} (hg : o.guard = none) (h : StepM c o s (fun s' => ∃ v, post v ∧ v.pure ∧ s' = s.put o.dst v)) (hN : ∀ v, post v → v.pure → AL c ops rest Q (s.put o.dst v)) : AL c ops (o :: rest) Q s :=
  AL.stepM hg fun g a w hs K Q' hK => h g a w hs K Q' fun g' s' a' w' ⟨v, h1, h2, e⟩ h3 h4 => hK g' s' a' w' (by subst e; exact hN v h1 h2) h3 h4
theorem AL.cally {Q : Exit → S → Prop} {ops : Array Oper} {rest : List Oper} {post : V → Prop} {j : Nat} {b : Bool} (hg : o.guard = some (j, b)) (hy : yld ops s j = some b) (h : StepM c o s (fun s' => ∃ v, post v ∧ v.pure ∧ s' = s.put o.dst v)) (hN : ∀ v, post v → v.pure → AL c ops rest Q (s.put o.dst v)) : AL c ops (o :: rest) Q s :=
  AL.yes hg hy fun g a w hs K Q' hK => h g a w hs K Q' fun g' s' a' w' ⟨v, h1, h2, e⟩ h3 h4 => hK g' s' a' w' (by subst e; exact hN v h1 h2) h3
theorem AL.rdy {Q : Exit → S → Prop} {ops : Array Oper} {rest : List Oper} {v : V} {j : Nat} {b : Bool} (hg : o.guard = some (j, b)) (hy : yld ops s j = some b) (hd : dok s o = true) (h : RD c o s v) (hN : AL c ops rest Q (s.put o.dst v)) : AL c ops (o :: rest) Q s :=
  AL.yes hg hy (h.stepM hd hN).step
theorem AL.rpy {Q : Exit → S → Prop} {ops : Array Oper} {rest : List Oper} {v : V} {j : Nat} {b : Bool} (hg : o.guard = some (j, b)) (hy : yld ops s j = some b) (hd : dok s o = true) (h : RP c o s v) (hN : AL c ops rest Q (s.put o.dst v)) : AL c ops (o :: rest) Q s :=
  AL.rdy hg hy hd h.rd hN

/-- A nil slice becomes one that may grow. -/
theorem AW.adopt {Q : Exit → S → Prop} {code : Code} (t r sz : Nat) (ty : TypeId) (ht : fnd s.T t = some .nil) (hr : s.clean r = true) (h : AW c code Q ⟨s.n, (t, .own r sz 0 true) :: s.T, (r, ⟨ty, [], true, sz⟩) :: s.H, s.K⟩) : AW c code Q s := by
  intro g a w hs
  refine h g a w ?_
  have hq : ∀ b, qt c s.H g b → b < w.heap.size → qt c ((r, (⟨ty, [], true, sz⟩ : Row)) :: s.H) g b := by
    intro b hb _
    refine ⟨hb.1, fun k row hk hn => ?_⟩
    simp only [fnd] at hk
    split at hk
    · simp only [Option.some.injEq] at hk; subst hk; cases hn
    · exact hb.2 k row hk hn
  have hm : ∀ {v x}, VRep w (qt c s.H g) g v x → VRep w (qt c ((r, (⟨ty, [], true, sz⟩ : Row)) :: s.H) g) g v x := fun hv => hv.mono Cells.rfl hq (fun _ _ => rfl)
  have hfn : ∀ k row, fnd ((r, (⟨ty, [], true, sz⟩ : Row)) :: s.H) k = some row → row.nil = false → fnd s.H k = some row := by
    intro k row hk hn
    simp only [fnd] at hk
    split at hk
    · simp only [Option.some.injEq] at hk; subst hk; cases hn
    · exact hk
  refine ⟨hs.size, hs.defers, ?_, ?_, ?_, ?_, ?_, ?_, hs.low, hs.below⟩
  · intro i v hv
    simp only [fnd] at hv
    split at hv
    · rename_i e
      simp only [beq_iff_eq] at e
      subst e
      simp only [Option.some.injEq] at hv
      subst hv
      obtain ⟨x, h1, h2⟩ := hs.tmp _ _ ht
      refine ⟨x, h1, ?_⟩
      rw [VRep.p_eq h2]
      exact .ownNil r sz
    · obtain ⟨x, h1, h2⟩ := hs.tmp i v hv
      exact ⟨x, h1, hm h2⟩
  · intro k row hk hn
    simp only [fnd] at hk
    split at hk
    · simp only [Option.some.injEq] at hk; subst hk; rfl
    · exact hs.nul k row hk hn
  · intro k row hk hn
    obtain ⟨arr, h1, h2, h3⟩ := hs.obj k row (hfn k row hk hn) hn
    refine ⟨arr, h1, h2, fun j v hv => ?_⟩
    obtain ⟨x, h4, h5⟩ := h3 j v hv
    exact ⟨x, h4, hm h5⟩
  · intro j v x h1 h2
    exact hm (hs.keep j v x h1 h2)
  · intro k k' row row' h1 n1 h2 n2 h3
    exact hs.inj k k' row row' (hfn k row h1 n1) n1 (hfn k' row' h2 n2) n2 h3
  · intro k row h1 n1
    exact hs.base k row (hfn k row h1 n1) n1
/-- A slice of the call's own becomes plain data. -/
theorem Sim.freeze {g : Nat → Nat × Nat} {a : Act} {w : World} (hs : Sim c g s a w) {t r sz bt n : Nat} {f : Bool} {row : Row} {rows : List (List D)} (ht : fnd s.T t = some (.own r sz n f)) (hr : fnd s.H r = some row) (hf : row.nil = f) (hlen : rows.length = n) (hn : n * bt ≤ 140737488355328)
    (hrows : ∀ (i j : Nat) (l : List D) (u : D), rows[i]? = some l → l[j]? = some u → row.cells[i * sz + j]? = some (.d u)) : Sim c g ⟨s.n, (t, .d (.sl sz bt rows)) :: s.T, s.H.filter (fun x => x.1 != r), s.K⟩ a w := by
  have hfn : ∀ k row', fnd (s.H.filter (fun x => x.1 != r)) k = some row' → k ≠ r ∧ fnd s.H k = some row' := by
    intro k row' hk
    have e : k ≠ r := by rintro rfl; rw [fnd_filter_self] at hk; cases hk
    rw [fnd_filter r _ _ e] at hk
    exact ⟨e, hk⟩
  have hq : ∀ b, qt c s.H g b → b < w.heap.size → qt c (s.H.filter (fun x => x.1 != r)) g b := fun b hb _ => ⟨hb.1, fun k row' hk hn => hb.2 k row' (hfn k row' hk).2 hn⟩
  have hm : ∀ {v x}, VRep w (qt c s.H g) g v x → VRep w (qt c (s.H.filter (fun x => x.1 != r)) g) g v x := fun hv => hv.mono Cells.rfl hq (fun _ _ => rfl)
  refine ⟨hs.size, hs.defers, ?_, ?_, ?_, ?_, ?_, ?_, hs.low, hs.below⟩
  · intro i v hv
    simp only [fnd] at hv
    split at hv
    · rename_i e
      simp only [beq_iff_eq] at e
      subst e
      simp only [Option.some.injEq] at hv
      subst hv
      obtain ⟨x, h1, h2⟩ := hs.tmp _ _ ht
      refine ⟨x, h1, .d _ _ ?_⟩
      cases h2 with
      | own _ _ _ hle hcap =>
        obtain ⟨arr, h3, _, h4⟩ := hs.obj r row hr hf
        subst hlen
        have hob : ¬ c.out (g r).1 := fun h => by
          have h5 := hs.low _ h
          have h6 := hs.base r row hr hf
          omega
        refine .sl sz bt rows _ _ (g r).1 0 (fun i j => arr.getD (i * sz + j) undef) (by omega) (fun _ => ⟨rfl, ⟨hob, fun k row' hk hkn e => ?_⟩, (Array.getElem?_eq_some_iff.1 h3).1⟩) hn ?_ ?_
        · obtain ⟨k1, k2⟩ := hfn k row' hk
          exact k1 (hs.inj k r _ _ k2 hkn hr hf e)
        · intro i j l u hi hj
          obtain ⟨y, h5, h6⟩ := h4 _ _ (hrows i j l u hi hj)
          rw [Nat.zero_add, cell_of_row w _ _ _ _ _ h3, h5]
          simp [Array.getD_eq_getD_getElem?, h5]
        · intro i j l u hi hj
          obtain ⟨y, h5, h6⟩ := h4 _ _ (hrows i j l u hi hj)
          cases hm h6 with
          | d _ _ h7 => simpa [Array.getD_eq_getD_getElem?, h5] using h7
      | ownNil =>
        have : rows = [] := by simpa using hlen
        subst this
        exact .sl sz bt [] none 0 0 0 (fun _ _ => undef) (Nat.le_refl 0) (fun h => absurd rfl h) (by simp) (by simp) (by simp)
    · obtain ⟨x, h1, h2⟩ := hs.tmp i v hv
      exact ⟨x, h1, hm h2⟩
  · intro k row' hk hn
    exact hs.nul k row' (hfn k row' hk).2 hn
  · intro k row' hk hn
    obtain ⟨arr, h1, h2, h3⟩ := hs.obj k row' (hfn k row' hk).2 hn
    refine ⟨arr, h1, h2, fun j v hv => ?_⟩
    obtain ⟨x, h4, h5⟩ := h3 j v hv
    exact ⟨x, h4, hm h5⟩
  · intro j v x h1 h2
    exact hm (hs.keep j v x h1 h2)
  · intro k k' row row' h1 n1 h2 n2 h3
    exact hs.inj k k' row row' (hfn k row h1).2 n1 (hfn k' row' h2).2 n2 h3
  · intro k row h1 n1
    exact hs.base k row (hfn k row h1).2 n1
theorem AW.freeze {Q : Exit → S → Prop} {code : Code} (t bt : Nat) {r sz n : Nat} {f : Bool} {row : Row} (rows : List (List D)) (ht : fnd s.T t = some (.own r sz n f)) (hr : fnd s.H r = some row) (hf : row.nil = f) (hlen : rows.length = n) (hn : n * bt ≤ 140737488355328)
    (hrows : ∀ (i j : Nat) (l : List D) (u : D), rows[i]? = some l → l[j]? = some u → row.cells[i * sz + j]? = some (.d u)) (h : AW c code Q ⟨s.n, (t, .d (.sl sz bt rows)) :: s.T, s.H.filter (fun x => x.1 != r), s.K⟩) : AW c code Q s :=
  fun g a w hs => h g a w (hs.freeze ht hr hf hlen hn hrows)
theorem AL.freeze {Q : Exit → S → Prop} {ops : Array Oper} {l' : List Oper} (t bt : Nat) {r sz n : Nat} {f : Bool} {row : Row} (rows : List (List D)) (ht : fnd s.T t = some (.own r sz n f)) (hr : fnd s.H r = some row) (hf : row.nil = f) (hlen : rows.length = n) (hn : n * bt ≤ 140737488355328)
    (hrows : ∀ (i j : Nat) (l : List D) (u : D), rows[i]? = some l → l[j]? = some u → row.cells[i * sz + j]? = some (.d u)) (h : AL c ops l' Q ⟨s.n, (t, .d (.sl sz bt rows)) :: s.T, s.H.filter (fun x => x.1 != r), s.K⟩) : AL c ops l' Q s :=
  fun g a w hs => h g a w (hs.freeze ht hr hf hlen hn hrows)
theorem rows1 {l : List α} {f : α → D} {cells : List V} (h : cells = l.map (fun x => V.d (f x))) : ∀ (i j : Nat) (l' : List D) (u : D), (l.map (fun x => [f x]))[i]? = some l' → l'[j]? = some u → cells[i * 1 + j]? = some (.d u) := by
  intro i j l' u h1 h2
  rw [List.getElem?_map] at h1
  cases h3 : l[i]? with
  | none => rw [h3] at h1; cases h1
  | some x =>
    rw [h3] at h1
    simp only [Option.map_some, Option.some.injEq] at h1
    subst h1
    match j, h2 with
    | 0, h2 =>
      simp only [List.getElem?_cons_zero, Option.some.injEq] at h2
      subst h2 h
      simp [h3]
    | n + 1, h2 => simp at h2
end
end Go.Proofs.YtkikceoccmoanaaGreatDoor
namespace Go.Proofs.YtkikceoccmoanaaGreatDoor
open Go.RowKit
set_option linter.unusedSimpArgs false
set_option linter.unusedVariables false

theorem fnd_zip : ∀ (l : List Nat) (vs : List V) (i : Nat) (v : V), fnd (l.zip vs) i = some v → ∃ j : Nat, l[j]? = some i ∧ vs[j]? = some v
  | [], vs, i, v, h => by simp [fnd] at h
  | k :: l, [], i, v, h => by simp [fnd] at h
  | k :: l, u :: vs, i, v, h => by
    simp only [List.zip_cons_cons, fnd] at h
    split at h
    · rename_i e
      simp only [beq_iff_eq] at e
      subst e
      simp only [Option.some.injEq] at h
      subst h
      exact ⟨0, rfl, rfl⟩
    · obtain ⟨j, h1, h2⟩ := fnd_zip l vs i v h
      exact ⟨j + 1, by simpa using h1, by simpa using h2⟩

/-- How the caller goes on: l, its temporaries that it has kept. -/
def QI (P : Program) (rs : List ResultVar) (n : Nat) (l : List Nat) (d : Option Tmp) (N : S → Prop) : Exit → S → Prop
  | .normal, s => ∃ vs, resL P s rs vs ∧ N (S.put ⟨n, l.zip s.K, s.H, s.K.drop l.length⟩ d (tupOf vs))
  | .ret, s => ∃ vs, resL P s rs vs ∧ N (S.put ⟨n, l.zip s.K, s.H, s.K.drop l.length⟩ d (tupOf vs))
  | _, _ => False

section
variable {c : Cx} {s : S} {o : Oper}

theorem st_inline (l : List Nat) {ts : List V} {fx : Operand} {xs : Array Operand} {tys : Array TypeId} {f : FuncId} {caps : List V} {fn : Func} {code : Code} {n : Nat} {rs : List ResultVar} {ars : List V} {N : S → Prop} (hts : l.map (fun i => fnd s.T i) = ts.map some) (hf : Is c.P f fn code n rs)
    (ho : o.op = .call { callee := .value fx, args := xs, argTypes := tys }) (hfx : s.ev fx = some (.fn f caps)) (hargs : xs.toList.map s.ev = ars.map some) (hn : ars.length + caps.length ≤ n) (hd : dok s o = true)
    (h : ∀ kx, AW ⟨c.P, c.w0, c.out, kx, []⟩ code (QI c.P rs s.n l o.dst N) ⟨n, enum 0 (ars ++ caps), s.H, ts ++ s.K⟩) : Step c o s N := by
  intro g a w hs K Q hK
  have hfv := hs.ev hfx
  obtain ⟨cs, hfx', hcl, hcr⟩ : ∃ cs : List Value, a.eval fx = .func (.func f) #[] cs.toArray ∧ caps.length = cs.length ∧ ∀ (j : Nat) (u : V) (y : Value), caps[j]? = some u → cs[j]? = some y → VRep w (qt c s.H g) g u y := by
    generalize a.eval fx = u at hfv
    cases hfv with
    | fn _ _ cs hl h => exact ⟨cs, rfl, hl, h⟩
  have harl : ars.length = xs.toList.length := by simpa using (congrArg List.length hargs).symm
  have harg : ∀ (j : Nat) (u : V) (y : Value), ars[j]? = some u → (xs.toList.map a.eval)[j]? = some y → VRep w (qt c s.H g) g u y := by
    intro j u y hu hy
    have h1 := congrArg (fun l => l[j]?) hargs
    simp only [List.getElem?_map, hu, Option.map_some] at h1 hy
    cases h2 : xs.toList[j]? with
    | none => rw [h2] at h1; cases h1
    | some p =>
      rw [h2] at h1 hy
      simp only [Option.map_some, Option.some.injEq] at h1 hy
      subst hy
      exact hs.ev h1
  have hll : l.length = ts.length := by simpa using congrArg List.length hts
  have hlt : ∀ (j i : Nat) (v : V), l[j]? = some i → ts[j]? = some v → fnd s.T i = some v := by
    intro j i v h1 h2
    have h3 := congrArg (fun l => l[j]?) hts
    simp only [List.getElem?_map, h1, h2, Option.map_some, Option.some.injEq] at h3
    exact h3
  have hlt' : ∀ (j i : Nat), l[j]? = some i → ∃ v x, ts[j]? = some v ∧ fnd s.T i = some v ∧ a.tmps[i]? = some x ∧ VRep w (qt c s.H g) g v x := by
    intro j i h1
    have hj : j < ts.length := by rw [← hll]; exact (List.getElem?_eq_some_iff.1 h1).1
    have h2 := hlt j i ts[j] h1 (List.getElem?_eq_getElem hj)
    obtain ⟨x, h3, h4⟩ := hs.tmp i _ h2
    exact ⟨_, x, List.getElem?_eq_getElem hj, h2, h3, h4⟩
  have hsim : Sim ⟨c.P, c.w0, c.out, l.map (fun i => a.tmps.getD i undef) ++ c.kx, []⟩ g ⟨n, enum 0 (ars ++ caps), s.H, ts ++ s.K⟩ { tmps := ((xs.toList.map a.eval) ++ cs).toArray ++ Array.replicate (fn.ntmps - ((xs.toList.map a.eval) ++ cs).toArray.size) undef, defers := [] } w := by
    refine ⟨?_, rfl, ?_, hs.nul, hs.obj, ?_, hs.inj, hs.base, hs.low, hs.below⟩
    · simp [hf.ntmps]; simp at harl; omega
    · intro i v hv
      obtain ⟨_, h2⟩ := fnd_enum _ 0 i v hv
      simp only [Nat.sub_zero] at h2
      have hi : i < ((xs.toList.map a.eval) ++ cs).length := by
        have := (List.getElem?_eq_some_iff.1 h2).1
        simp at this harl ⊢; omega
      refine ⟨((xs.toList.map a.eval) ++ cs)[i], ?_, ?_⟩
      · rw [hf.ntmps]
        exact enter_get (List.getElem?_eq_getElem hi) (by simp at harl ⊢; omega)
      · by_cases hia : i < ars.length
        · rw [List.getElem?_append_left hia] at h2
          refine harg i v _ h2 ?_
          have hi' : i < (xs.toList.map a.eval).length := by simp at harl ⊢; omega
          rw [List.getElem_append_left hi']
          exact List.getElem?_eq_getElem hi'
        · rw [List.getElem?_append_right (by omega)] at h2
          refine hcr _ v _ h2 ?_
          have hi' : (xs.toList.map a.eval).length ≤ i := by simp at harl ⊢; omega
          rw [List.getElem_append_right hi']
          have e : (xs.toList.map a.eval).length = ars.length := by simp at harl ⊢; omega
          rw [← List.getElem?_eq_getElem, e]
    · intro j v x h1 h2
      by_cases hj : j < ts.length
      · rw [List.getElem?_append_left hj] at h1
        rw [List.getElem?_append_left (by simp; omega)] at h2
        simp only [List.getElem?_map] at h2
        cases h3 : l[j]? with
        | none => rw [h3] at h2; cases h2
        | some i =>
          rw [h3] at h2
          simp only [Option.map_some, Option.some.injEq] at h2
          obtain ⟨v', x', h4, h5, h6, h7⟩ := hlt' j i h3
          rw [h4] at h1
          simp only [Option.some.injEq] at h1
          subst h1
          have : x = x' := by rw [← h2]; simp [Array.getD_eq_getD_getElem?, h6]
          subst this
          exact h7
      · rw [List.getElem?_append_right (by omega)] at h1
        rw [List.getElem?_append_right (by simp; omega)] at h2
        refine hs.keep (j - ts.length) v x h1 ?_
        simpa [hll] using h2
  unfold Oper.wp
  rw [exec_call (caps := cs) hf ho hfx']
  simp only [Oper.upon]
  refine calls_of_wp hf.func hf.body (wp_mono (h (l.map (fun i => a.tmps.getD i undef) ++ c.kx) g _ w hsim) fun e a1 w1 hq => ?_)
  obtain ⟨g1, s1, h1, h2⟩ := hq
  have fin : (∃ vs, resL c.P s1 rs vs ∧ N (S.put ⟨s.n, l.zip s1.K, s1.H, s1.K.drop l.length⟩ o.dst (tupOf vs))) →
      a1.defers = [] ∧ ∃ v, (results fn a1.tmps).run c.P w1 = .ok v w1 ∧ K (a.put o.dst v) w1 := by
    rintro ⟨vs, k1, k2⟩
    obtain ⟨x, k3, k4⟩ := run_results (c := ⟨c.P, c.w0, c.out, l.map (fun i => a.tmps.getD i undef) ++ c.kx, []⟩) hf.results h2 k1
    refine ⟨h2.defers, x, k4, ?_⟩
    refine hK g1 _ _ _ k2 (Sim.put (s := ⟨s.n, l.zip s1.K, s1.H, s1.K.drop l.length⟩) (c := c) ?_ o.dst (dok_spec (s := s) hd) k3)
    refine ⟨hs.size, hs.defers, ?_, h2.nul, h2.obj, ?_, h2.inj, h2.base, h2.low, h2.below⟩
    · intro i v hv
      obtain ⟨j, h3, h4⟩ := fnd_zip _ _ i v hv
      obtain ⟨v', x', h5, h6, h7, h8⟩ := hlt' j i h3
      refine ⟨x', h7, h2.keep j v x' h4 ?_⟩
      have hj : j < l.length := (List.getElem?_eq_some_iff.1 h3).1
      simp only
      rw [List.getElem?_append_left (by simpa using hj)]
      simp [h3, Array.getD_eq_getD_getElem?, h7]
    · intro j v x h3 h4
      refine h2.keep (l.length + j) v x (by simpa using h3) ?_
      simp only
      rw [List.getElem?_append_right (by simp)]
      simpa using h4
  cases e with
  | normal => exact fin h1
  | ret => exact fin h1
  | _ => exact h1.elim
theorem AL.inline (l : List Nat) {ts : List V} {fx : Operand} {xs : Array Operand} {tys : Array TypeId} {f : FuncId} {caps : List V} {fn : Func} {code : Code} {n : Nat} {rs : List ResultVar} {ars : List V} {Q : Exit → S → Prop} {ops : Array Oper} {rest : List Oper} (hg : o.guard = none) (hts : l.map (fun i => fnd s.T i) = ts.map some) (hf : Is c.P f fn code n rs)
    (ho : o.op = .call { callee := .value fx, args := xs, argTypes := tys }) (hfx : s.ev fx = some (.fn f caps)) (hargs : xs.toList.map s.ev = ars.map some) (hn : ars.length + caps.length ≤ n) (hd : dok s o = true)
    (h : ∀ kx, AW ⟨c.P, c.w0, c.out, kx, []⟩ code (QI c.P rs s.n l o.dst (AL c ops rest Q)) ⟨n, enum 0 (ars ++ caps), s.H, ts ++ s.K⟩) : AL c ops (o :: rest) Q s :=
  AL.step hg (st_inline l hts hf ho hfx hargs hn hd h)
end
end Go.Proofs.YtkikceoccmoanaaGreatDoor
namespace Go.Proofs.YtkikceoccmoanaaGreatDoor
open Go.RowKit
set_option linter.unusedSimpArgs false
set_option linter.unusedVariables false

section
variable {P : Program} {ops : Array Oper} {Q : Exit → Act → World → Prop} {md : Region.Mode} {T : World → Prop} {need : Nat → Bool}

/-- What is listed has all it waits for listed. -/
def closedL (md : Region.Mode) (ops : Array Oper) (listed : Array Bool) : Prop := ∀ (j : Nat) (oj : Oper), ops[j]? = some oj → listed.getD j false = true → ∀ e ∈ oj.after, Region.binds md e = true → listed.getD e.on false = true
def reachB (md : Region.Mode) (ops : Array Oper) : Nat → Nat → Nat → Bool
  | 0, _, _ => false
  | n + 1, z, i =>
    match ops[z]? with
    | some oz => oz.after.any fun e => Region.binds md e && (e.on == i || reachB md ops n e.on i)
    | none => false
theorem reach_listed {listed : Array Bool} (hc : closedL md ops listed) {i : Nat} : ∀ (n z : Nat), reachB md ops n z i = true → listed.getD z false = true → listed.getD i false = true
  | 0, z, h, _ => by simp [reachB] at h
  | n + 1, z, h, hz => by
    simp only [reachB] at h
    split at h
    · rename_i oz ho
      obtain ⟨e, he, hb⟩ := Array.any_eq_true'.1 h
      simp only [Bool.and_eq_true, Bool.or_eq_true, beq_iff_eq] at hb
      have h1 := hc z oz ho hz e he hb.1
      rcases hb.2 with h2 | h2
      · rw [← h2]; exact h1
      · exact reach_listed hc n e.on h2 h1
    · cases h
theorem reach_ready {listed : Array Bool} (hc : closedL md ops listed) {n z i : Nat} (h : reachB md ops n z i = true) (hr : z ∈ Region.ready md ops listed) : listed.getD i false = true := by
  obtain ⟨_, oz, ho, hd⟩ := mem_ready.1 hr
  cases n with
  | zero => simp [reachB] at h
  | succ n =>
    simp only [reachB, ho] at h
    obtain ⟨e, he, hb⟩ := Array.any_eq_true'.1 h
    simp only [Bool.and_eq_true, Bool.or_eq_true, beq_iff_eq] at hb
    have h1 := hd e he hb.1
    rcases hb.2 with h2 | h2
    · rw [← h2]; exact h1
    · exact reach_listed hc n e.on h2 h1
theorem getD_set_mono {listed : Array Bool} {i k : Nat} (h : listed.getD k false = true) : (listed.setIfInBounds i true).getD k false = true := by
  rw [Array.getD_eq_getD_getElem?] at h ⊢
  rw [Array.getElem?_setIfInBounds]
  split
  · split
    · rfl
    · rename_i h1 h2
      subst h1
      rw [Array.getElem?_eq_none (by omega)] at h
      cases h
  · exact h
theorem closed_set {listed : Array Bool} (hc : closedL md ops listed) {i : Nat} (hr : i ∈ Region.ready md ops listed) : closedL md ops (listed.setIfInBounds i true) := by
  intro j oj hj hl e he hb
  by_cases hji : j = i
  · subst hji
    obtain ⟨_, oz, ho, hd⟩ := mem_ready.1 hr
    rw [ho] at hj
    simp only [Option.some.injEq] at hj
    subst hj
    exact getD_set_mono (hd e he hb)
  · refine getD_set_mono (hc j oj hj ?_ e he hb)
    rw [Array.getD_eq_getD_getElem?, Array.getElem?_setIfInBounds_ne (Ne.symm hji)] at hl
    rw [Array.getD_eq_getD_getElem?]
    exact hl

def anyN (P : Program) (md : Region.Mode) (ops : Array Oper) (Q : Exit → Act → World → Prop) (T : World → Prop) (need : Nat → Bool) : Nat → Array Bool → Act → World → Prop
  | 0, listed, a, w => Region.ready md ops listed = [] ∧ Q .normal a w
  | n + 1, listed, a, w => (Region.ready md ops listed = [] → Q .normal a w) ∧
      ∀ i ∈ Region.ready md ops listed, wpOp P ops Q i (fun a' w' => (need i = true → T w') ∧ anyN P md ops Q T need n (listed.setIfInBounds i true) a' w') a w
theorem any_of_anyN : ∀ (n : Nat) (listed : Array Bool) (a : Act) (w : World), anyN P md ops Q T need n listed a w → wpAny P md ops Q n listed a w
  | 0, _, _, _, h => h
  | n + 1, _, _, _, h => ⟨h.1, fun i hi => wpOp_mono (fun a' w' h' => any_of_anyN n _ a' w' h'.2) (h.2 i hi)⟩

theorem anyN_early {i N : Nat} {oi : Oper} {v : Value} (hz : ∀ j, j ≠ i → j < ops.size → need j = true ∨ reachB md ops N j i = true) (hi : ops[i]? = some oi) (hsel : ∀ (j : Nat) (o : Oper) cs b, ops[j]? = some o → o.op ≠ .select cs b)
    (hQ : ∀ c a w, Q (.panic c) (a.put oi.dst v) w → Q (.panic c) a w) (n : Nat) :
    ∀ (listed : Array Bool) (a : Act) (w : World), closedL md ops listed →
      (∀ j oj, ops[j]? = some oj → j ≠ i → listed.getD j true = false → (∀ e ∈ oj.after, Region.binds md e = true → e.on ≠ i) → oi.apart ops oj = true) →
      i ∈ Region.ready md ops listed → YieldsIf P ops T oi v a → T w →
      anyN P md ops Q T need n (listed.setIfInBounds i true) (a.put oi.dst v) w → anyN P md ops Q T need (n + 1) listed a w := by
  induction n with
  | zero =>
    intro listed a w hcl hfree hr hy hS H
    refine ⟨fun h => by rw [h] at hr; exact absurd hr List.not_mem_nil, fun j hj => ?_⟩
    by_cases hji : j = i
    · subst hji
      exact hy.wpOp hi hS ⟨fun _ => hS, H⟩
    · have hm := ready_mono hj hji
      rw [H.1] at hm
      exact absurd hm List.not_mem_nil
  | succ n ih =>
    intro listed a w hcl hfree hr hy hS H
    refine ⟨fun h => by rw [h] at hr; exact absurd hr List.not_mem_nil, fun j hj => ?_⟩
    by_cases hji : j = i
    · subst hji
      exact hy.wpOp hi hS ⟨fun _ => hS, H⟩
    · have hij : i ≠ j := fun h => hji h.symm
      have hnext := H.2 j (ready_mono hj hji)
      obtain ⟨hjl, oj, hoj, hdone⟩ := mem_ready.1 hj
      have hil := (mem_ready.1 hr).1
      have hil' : listed.getD i false = false := by
        rw [Array.getD_eq_getD_getElem?] at hil ⊢
        cases hl : listed[i]? with
        | none => rw [hl] at hil; cases hil
        | some b => rw [hl] at hil; exact hil
      have hno : ∀ e ∈ oj.after, Region.binds md e = true → e.on ≠ i := by
        intro e he hb hei
        have hd := hdone e he hb
        rw [hei, hil'] at hd
        cases hd
      have hnj : need j = true := by
        rcases hz j hji (Array.getElem?_eq_some_iff.1 hoj).1 with h | h
        · exact h
        · have := reach_ready hcl h hj
          rw [hil'] at this
          cases this
      have hstep := wpOp_putIf hoj (hfree j oj hoj hji hjl hno) (fun cs b => hsel i oi cs b hi) (fun cs b => hsel j oj cs b hoj) hQ hy hnext
      refine wpOp_mono (fun a' w' h3 => ?_) hstep
      obtain ⟨hy', hS', hrest⟩ := h3
      refine ⟨fun _ => hS' hnj, ih _ a' w' (closed_set hcl hj) ?_ (ready_mono hr hij) hy' (hS' hnj) ?_⟩
      · intro k ok hk hki hkl hkn
        refine hfree k ok hk hki ?_ hkn
        by_cases hjk : j = k
        · subst hjk
          exact hjl
        · rwa [getD_set_ne true hjk] at hkl
      · rw [Array.setIfInBounds_comm _ _ hji]
        exact hrest

/-- The operations in an order of ours: true: a read that may come early. -/
def ASeq (P : Program) (ops : Array Oper) (Q : Exit → Act → World → Prop) (T : World → Prop) (need : Nat → Bool) : List (Nat × Bool) → Act → World → Prop
  | [], a, w => Q .normal a w
  | (i, true) :: r, a, w => ∃ oi x, ops[i]? = some oi ∧ YieldsIf P ops T oi x a ∧ T w ∧ (∀ c a w, Q (.panic c) (a.put oi.dst x) w → Q (.panic c) a w) ∧ ASeq P ops Q T need r (a.put oi.dst x) w
  | (i, false) :: r, a, w => wpOp P ops Q i (fun a' w' => (need i = true → T w') ∧ ASeq P ops Q T need r a' w') a w
def okS (md : Region.Mode) (ops : Array Oper) (need : Nat → Bool) (N : Nat) : List (Nat × Bool) → Array Bool → Bool
  | [], listed => (Region.ready md ops listed).isEmpty
  | (i, true) :: r, listed => (Region.ready md ops listed).contains i && Region.free md ops listed i && ((List.range ops.size).all fun j => j == i || need j || reachB md ops N j i) && okS md ops need N r (listed.setIfInBounds i true)
  | (i, false) :: r, listed => (Region.ready md ops listed == [i]) && okS md ops need N r (listed.setIfInBounds i true)
theorem anyN_of_ASeq {N : Nat} (hsel : Region.noSelect ops = true) : ∀ (l : List (Nat × Bool)) (listed : Array Bool) (a : Act) (w : World), closedL md ops listed → okS md ops need N l listed = true → ASeq P ops Q T need l a w → anyN P md ops Q T need l.length listed a w
  | [], listed, a, w, _, hok, h => ⟨by simpa [okS] using hok, h⟩
  | (i, true) :: r, listed, a, w, hcl, hok, h => by
    simp only [okS, Bool.and_eq_true, List.all_eq_true, List.mem_range, Bool.or_eq_true, beq_iff_eq] at hok
    obtain ⟨⟨⟨h1, h2⟩, h3⟩, h4⟩ := hok
    obtain ⟨oi, x, g1, g2, g3, g4, g5⟩ := h
    have hr : i ∈ Region.ready md ops listed := by simpa using h1
    refine anyN_early (N := N) (fun j hj hlt => ?_) g1 (Region.noSelect_spec hsel) g4 r.length listed a w hcl (Region.free_spec g1 h2) hr g2 g3 (anyN_of_ASeq hsel r _ _ w (closed_set hcl hr) h4 g5)
    rcases h3 j hlt with (h | h) | h
    · exact absurd h hj
    · exact .inl h
    · exact .inr h
  | (i, false) :: r, listed, a, w, hcl, hok, h => by
    simp only [okS, Bool.and_eq_true, beq_iff_eq] at hok
    obtain ⟨h1, h2⟩ := hok
    have hr : i ∈ Region.ready md ops listed := by rw [h1]; exact List.mem_singleton.2 rfl
    refine ⟨fun h0 => (by rw [h0] at h1; cases h1), fun j hj => ?_⟩
    rw [h1] at hj
    obtain rfl := List.mem_singleton.1 hj
    exact wpOp_mono (fun a' w' h' => ⟨h'.1, anyN_of_ASeq hsel r _ a' w' (closed_set hcl hr) h2 h'.2⟩) h
end

section
variable {c : Cx} {s : S} {Q : Exit → S → Prop} {ops : Array Oper} {L : List Oper} {need : Nat → Bool} {l : List (Nat × Bool)} {i : Nat} {o : Oper}

/-- First come the reads. -/
def AD1 (c : Cx) (ops : Array Oper) (Q : Exit → S → Prop) (need : Nat → Bool) (l : List (Nat × Bool)) (s : S) : Prop := ∀ g a w, Sim c g s a w → ASeq c.P ops (QQ c Q) (Below w.heap.size w) need l a w
/-- Then what makes new memory. -/
def AD2 (c : Cx) (ops : Array Oper) (Q : Exit → S → Prop) (need : Nat → Bool) (l : List (Nat × Bool)) (s : S) : Prop := ∀ W g a w, Sim c g s a w → Below W.heap.size W w → ASeq c.P ops (QQ c Q) (Below W.heap.size W) need l a w
/-- Then what writes. -/
def AD3 (c : Cx) (ops : Array Oper) (Q : Exit → S → Prop) (need : Nat → Bool) (l : List (Nat × Bool)) (s : S) : Prop := ∀ (T : World → Prop) g a w, Sim c g s a w → ASeq c.P ops (QQ c Q) T need l a w
def noP (Q : Exit → S → Prop) : Prop := ∀ ch s, Q (.panic ch) s → False
theorem QQ_noP (h : noP Q) (d : Option Tmp) (x : Value) : ∀ ch a w, QQ c Q (.panic ch) (Act.put a d x) w → QQ c Q (.panic ch) a w := fun ch a w ⟨g, s, h1, _⟩ => (h ch s h1).elim

theorem AW.draw {id : Nat} {l : List Oper} (order : List (Nat × Bool)) (need : Nat → Bool) (N : Nat) (hm : c.P.follows .mixedOrders = true) (hsel : Region.noSelect l.toArray = true) (hlen : order.length = l.length)
    (hok : okS .any l.toArray need N order (Array.replicate l.length false) = true) (h : AD1 c l.toArray Q need order s) : AW c (.region id l.toArray true) Q s := by
  intro g a w hs
  refine wp_region_any hm ?_
  have hs' : Sim c g s a w.drew := hs.move (Below.drew (Below.refl _ _))
  have := any_of_anyN _ _ _ _ (anyN_of_ASeq (P := c.P) (Q := QQ c Q) (T := Below w.drew.heap.size w.drew) (need := need) (md := .any) hsel order (Array.replicate l.length false) a w.drew (by
    intro j oj _ hl
    rw [Array.getD_eq_getD_getElem?, Array.getElem?_replicate] at hl
    split at hl <;> simp at hl) hok (h g a _ hs'))
  rw [hlen] at this
  simpa using this

theorem wpOp_of {P : Program} {Qc : Exit → Act → World → Prop} {a : Act} {w : World} {K : Act → World → Prop} (hi : ops[i]? = some o) (hg : o.guard = none) (h : o.wp P a w K Qc) : wpOp P ops Qc i K a w := by
  unfold wpOp
  simp only [hi, Region.wanted, hg, if_true]
  exact .inl h
theorem wpOp_ofy {P : Program} {Qc : Exit → Act → World → Prop} {a : Act} {w : World} {K : Act → World → Prop} (hi : ops[i]? = some o) (hw : Region.wanted o (yielded ops a.tmps) = true) (h : o.wp P a w K Qc) : wpOp P ops Qc i K a w := by
  unfold wpOp
  simp only [hi, hw, if_true]
  exact .inl h
theorem AD1.rd {v : V} (hi : L[i]? = some o) (hg : o.guard = none) (hd : dok s o = true) (hp : noP Q) (h : RD c o s v) (hN : AD1 c L.toArray Q need l (s.put o.dst v)) : AD1 c L.toArray Q need ((i, true) :: l) s := fun g a w hs => by
  obtain ⟨x, h1, h2⟩ := h g a w hs
  exact ⟨o, x, by simpa using hi, .inl ⟨by simp [Region.wanted, hg], h2⟩, Below.refl _ _, QQ_noP hp _ _, hN g _ w (hs.put o.dst (dok_spec hd) h1)⟩
theorem AD1.rp {v : V} (hi : L[i]? = some o) (hg : o.guard = none) (hd : dok s o = true) (hp : noP Q) (h : RP c o s v) (hN : AD1 c L.toArray Q need l (s.put o.dst v)) : AD1 c L.toArray Q need ((i, true) :: l) s := AD1.rd hi hg hd hp h.rd hN
theorem AD1.rdy {v : V} {j : Nat} {b : Bool} (hi : L[i]? = some o) (hg : o.guard = some (j, b)) (hy : yld L.toArray s j = some b) (hd : dok s o = true) (hp : noP Q) (h : RD c o s v) (hN : AD1 c L.toArray Q need l (s.put o.dst v)) : AD1 c L.toArray Q need ((i, true) :: l) s := fun g a w hs => by
  obtain ⟨x, h1, h2⟩ := h g a w hs
  exact ⟨o, x, by simpa using hi, .inl ⟨by simp [Region.wanted, hg, yld_spec hy hs], h2⟩, Below.refl _ _, QQ_noP hp _ _, hN g _ w (hs.put o.dst (dok_spec hd) h1)⟩
theorem AD1.rpy {v : V} {j : Nat} {b : Bool} (hi : L[i]? = some o) (hg : o.guard = some (j, b)) (hy : yld L.toArray s j = some b) (hd : dok s o = true) (hp : noP Q) (h : RP c o s v) (hN : AD1 c L.toArray Q need l (s.put o.dst v)) : AD1 c L.toArray Q need ((i, true) :: l) s := AD1.rdy hi hg hy hd hp h.rd hN
theorem AD1.no {j : Nat} {b b' : Bool} (hi : L[i]? = some o) (hg : o.guard = some (j, b)) (hy : yld L.toArray s j = some b') (hb : (b' == b) = false) (hd : dok s o = true) (hp : noP Q) (hN : AD1 c L.toArray Q need l (s.put o.dst .junk)) : AD1 c L.toArray Q need ((i, true) :: l) s := fun g a w hs =>
  ⟨o, undef, by simpa using hi, .inr ⟨by simp only [Region.wanted, hg, yld_spec hy hs]; simpa using hb, rfl⟩, Below.refl _ _, QQ_noP hp _ _, hN g _ w (hs.put o.dst (dok_spec hd) (.junk _))⟩
theorem AD1.go (h : AD2 c L.toArray Q need l s) : AD1 c L.toArray Q need l s := fun g a w hs => h w g a w hs (Below.refl _ _)
theorem AD1.nil (h : Q .normal s) : AD1 c L.toArray Q need [] s := fun g a w hs => ⟨g, s, h, hs⟩
theorem AD2.rp {v : V} (hi : L[i]? = some o) (hg : o.guard = none) (hd : dok s o = true) (hp : noP Q) (h : RP c o s v) (hN : AD2 c L.toArray Q need l (s.put o.dst v)) : AD2 c L.toArray Q need ((i, true) :: l) s := fun W g a w hs hb => by
  obtain ⟨x, h1, h2⟩ := h g a w hs
  exact ⟨o, x, by simpa using hi, .inl ⟨by simp [Region.wanted, hg], fun w' _ => h2 w'⟩, hb, QQ_noP hp _ _, hN W g _ w (hs.put o.dst (dok_spec hd) h1) hb⟩
theorem AD2.stepM (hi : L[i]? = some o) (hg : o.guard = none) (h : StepM c o s (AD2 c L.toArray Q need l)) : AD2 c L.toArray Q need ((i, false) :: l) s := fun W g a w hs hb =>
  wpOp_of (by simpa using hi) hg (h g a w hs _ _ fun g' s' a' w' h1 h2 h3 => ⟨fun _ => hb.trans (h3.mono hb.size), h1 W g' a' w' h2 (hb.trans (h3.mono hb.size))⟩)
theorem AD2.sm {X : S} (hi : L[i]? = some o) (hg : o.guard = none) (h : StepM c o s (fun s' => s' = X)) (hN : AD2 c L.toArray Q need l X) : AD2 c L.toArray Q need ((i, false) :: l) s :=
  AD2.stepM hi hg fun g a w hs K Q' hK => h g a w hs K Q' fun g' s' a' w' e h1 h2 => hK g' s' a' w' (by subst e; exact hN) h1 h2
theorem AD2.call {post : V → Prop} (hi : L[i]? = some o) (hg : o.guard = none) (h : StepM c o s (fun s' => ∃ v, post v ∧ v.pure ∧ s' = s.put o.dst v)) (hN : ∀ v, post v → v.pure → AD2 c L.toArray Q need l (s.put o.dst v)) : AD2 c L.toArray Q need ((i, false) :: l) s :=
  AD2.stepM hi hg fun g a w hs K Q' hK => h g a w hs K Q' fun g' s' a' w' ⟨v, h1, h2, e⟩ h3 h4 => hK g' s' a' w' (by subst e; exact hN v h1 h2) h3 h4
theorem AD2.rd1 {v : V} (hi : L[i]? = some o) (hg : o.guard = none) (hd : dok s o = true) (h : RD c o s v) (hN : AD2 c L.toArray Q need l (s.put o.dst v)) : AD2 c L.toArray Q need ((i, false) :: l) s :=
  AD2.stepM hi hg (h.stepM hd hN)
theorem AD2.rp1 {v : V} (hi : L[i]? = some o) (hg : o.guard = none) (hd : dok s o = true) (h : RP c o s v) (hN : AD2 c L.toArray Q need l (s.put o.dst v)) : AD2 c L.toArray Q need ((i, false) :: l) s := AD2.rd1 hi hg hd h.rd hN
theorem AD2.rpy {v : V} {j : Nat} {b : Bool} (hi : L[i]? = some o) (hg : o.guard = some (j, b)) (hy : yld L.toArray s j = some b) (hd : dok s o = true) (hp : noP Q) (h : RP c o s v) (hN : AD2 c L.toArray Q need l (s.put o.dst v)) : AD2 c L.toArray Q need ((i, true) :: l) s := fun W g a w hs hb => by
  obtain ⟨x, h1, h2⟩ := h g a w hs
  exact ⟨o, x, by simpa using hi, .inl ⟨by simp [Region.wanted, hg, yld_spec hy hs], fun w' _ => h2 w'⟩, hb, QQ_noP hp _ _, hN W g _ w (hs.put o.dst (dok_spec hd) h1) hb⟩
theorem AD2.no {j : Nat} {b b' : Bool} (hi : L[i]? = some o) (hg : o.guard = some (j, b)) (hy : yld L.toArray s j = some b') (hb' : (b' == b) = false) (hd : dok s o = true) (hp : noP Q) (hN : AD2 c L.toArray Q need l (s.put o.dst .junk)) : AD2 c L.toArray Q need ((i, true) :: l) s := fun W g a w hs hb =>
  ⟨o, undef, by simpa using hi, .inr ⟨by simp only [Region.wanted, hg, yld_spec hy hs]; simpa using hb', rfl⟩, hb, QQ_noP hp _ _, hN W g _ w (hs.put o.dst (dok_spec hd) (.junk _)) hb⟩
theorem AD2.no1 {j : Nat} {b b' : Bool} (hi : L[i]? = some o) (hg : o.guard = some (j, b)) (hy : yld L.toArray s j = some b') (hb' : (b' == b) = false) (hd : dok s o = true) (hN : AD2 c L.toArray Q need l (s.put o.dst .junk)) : AD2 c L.toArray Q need ((i, false) :: l) s := fun W g a w hs hb => by
  have hw : ¬ Region.wanted o (yielded L.toArray a.tmps) = true := by simp only [Region.wanted, hg, yld_spec hy hs]; simpa using hb'
  show wpOp c.P L.toArray (QQ c Q) i _ a w
  unfold wpOp
  simp only [List.getElem?_toArray, hi]
  rw [if_neg hw]
  exact ⟨fun _ => hb, hN W g _ w (hs.put o.dst (dok_spec hd) (.junk _)) hb⟩
theorem AD2.stepMy {j : Nat} {b : Bool} (hi : L[i]? = some o) (hg : o.guard = some (j, b)) (hy : yld L.toArray s j = some b) (h : StepM c o s (AD2 c L.toArray Q need l)) : AD2 c L.toArray Q need ((i, false) :: l) s := fun W g a w hs hb =>
  wpOp_ofy (by simpa using hi) (by simp [Region.wanted, hg, yld_spec hy hs]) (h g a w hs _ _ fun g' s' a' w' h1 h2 h3 => ⟨fun _ => hb.trans (h3.mono hb.size), h1 W g' a' w' h2 (hb.trans (h3.mono hb.size))⟩)
theorem AD2.cally {post : V → Prop} {j : Nat} {b : Bool} (hi : L[i]? = some o) (hg : o.guard = some (j, b)) (hy : yld L.toArray s j = some b) (h : StepM c o s (fun s' => ∃ v, post v ∧ v.pure ∧ s' = s.put o.dst v)) (hN : ∀ v, post v → v.pure → AD2 c L.toArray Q need l (s.put o.dst v)) : AD2 c L.toArray Q need ((i, false) :: l) s :=
  AD2.stepMy hi hg hy fun g a w hs K Q' hK => h g a w hs K Q' fun g' s' a' w' ⟨v, h1, h2, e⟩ h3 h4 => hK g' s' a' w' (by subst e; exact hN v h1 h2) h3 h4
theorem AD2.rd1y {v : V} {j : Nat} {b : Bool} (hi : L[i]? = some o) (hg : o.guard = some (j, b)) (hy : yld L.toArray s j = some b) (hd : dok s o = true) (h : RD c o s v) (hN : AD2 c L.toArray Q need l (s.put o.dst v)) : AD2 c L.toArray Q need ((i, false) :: l) s :=
  AD2.stepMy hi hg hy (h.stepM hd hN)
theorem AD2.rp1y {v : V} {j : Nat} {b : Bool} (hi : L[i]? = some o) (hg : o.guard = some (j, b)) (hy : yld L.toArray s j = some b) (hd : dok s o = true) (h : RP c o s v) (hN : AD2 c L.toArray Q need l (s.put o.dst v)) : AD2 c L.toArray Q need ((i, false) :: l) s := AD2.rd1y hi hg hy hd h.rd hN
theorem AD2.go (h : AD3 c L.toArray Q need l s) : AD2 c L.toArray Q need l s := fun W g a w hs _ => h _ g a w hs
theorem AD2.nil (h : Q .normal s) : AD2 c L.toArray Q need [] s := fun W g a w hs _ => ⟨g, s, h, hs⟩
theorem AD3.step (hi : L[i]? = some o) (hg : o.guard = none) (hn : need i = false) (h : Step c o s (AD3 c L.toArray Q need l)) : AD3 c L.toArray Q need ((i, false) :: l) s := fun T g a w hs =>
  wpOp_of (by simpa using hi) hg (h g a w hs _ _ fun g' s' a' w' h1 h2 => ⟨fun h0 => (by rw [hn] at h0; cases h0), h1 T g' a' w' h2⟩)
theorem AD3.st {X : S} (hi : L[i]? = some o) (hg : o.guard = none) (hn : need i = false) (h : Step c o s (fun s' => s' = X)) (hN : AD3 c L.toArray Q need l X) : AD3 c L.toArray Q need ((i, false) :: l) s :=
  AD3.step hi hg hn fun g a w hs K Q' hK => h g a w hs K Q' fun g' s' a' w' e h1 => hK g' s' a' w' (by subst e; exact hN) h1
theorem AD3.rd1 {v : V} (hi : L[i]? = some o) (hg : o.guard = none) (hn : need i = false) (hd : dok s o = true) (h : RD c o s v) (hN : AD3 c L.toArray Q need l (s.put o.dst v)) : AD3 c L.toArray Q need ((i, false) :: l) s :=
  AD3.step hi hg hn (h.stepM hd hN).step
theorem AD3.rp1 {v : V} (hi : L[i]? = some o) (hg : o.guard = none) (hn : need i = false) (hd : dok s o = true) (h : RP c o s v) (hN : AD3 c L.toArray Q need l (s.put o.dst v)) : AD3 c L.toArray Q need ((i, false) :: l) s := AD3.rd1 hi hg hn hd h.rd hN
theorem AD3.sm {X : S} (hi : L[i]? = some o) (hg : o.guard = none) (hn : need i = false) (h : StepM c o s (fun s' => s' = X)) (hN : AD3 c L.toArray Q need l X) : AD3 c L.toArray Q need ((i, false) :: l) s := AD3.st hi hg hn h.step hN
theorem AD3.nil (h : Q .normal s) : AD3 c L.toArray Q need [] s := fun T g a w hs => ⟨g, s, h, hs⟩
end
end Go.Proofs.YtkikceoccmoanaaGreatDoor
namespace Go.Proofs.YtkikceoccmoanaaGreatDoor
open Go.RowKit
set_option linter.unusedSimpArgs false
set_option linter.unusedVariables false

/-- The blocks of the loop's own bookkeeping. -/
def lpd : Obj → Bool
  | .loop _ => true
  | .deferred _ => true
  | _ => false
mutual
/-- Does a value speak of such a block? -/
def V.bks : V → Bool
  | .blk _ _ _ => true
  | .ifc _ v => V.bks v
  | .agg l => V.bksL l
  | .tup l => V.bksL l
  | .fn _ l => V.bksL l
  | _ => false
def V.bksL : List V → Bool
  | [] => false
  | v :: l => V.bks v || V.bksL l
end
theorem V.bksL_false {l : List V} : V.bksL l = false ↔ ∀ d ∈ l, V.bks d = false := by
  induction l with
  | nil => simp [V.bksL]
  | cons x l ih => simp [V.bksL, ih]
theorem V.bksL_d (l : List D) : V.bksL (l.map V.d) = false := V.bksL_false.2 fun d hd => by obtain ⟨x, _, rfl⟩ := List.mem_map.1 hd; rfl

section
variable {c : Cx} {s : S} {o : Oper} {g : Nat → Nat × Nat} {a : Act} {w : World} {Q Q' : Exit → S → Prop}
theorem bk_cell {w w' : World} (hk : ∀ (b : Nat) (ob : Obj), w.heap[b]? = some ob → lpd ob = false → w'.heap[b]? = some ob) (b o : Nat) (u : Value) (h : w.cell? ⟨b, o, none⟩ = some u) : w'.cell? ⟨b, o, none⟩ = some u := by
  have h0 := h
  unfold World.cell? at h
  cases hb : w.heap[b]? with
  | none => simp [hb] at h
  | some ob =>
    refine (World.cell?_of_block (w := w) (a := ⟨b, o, none⟩) ((hk b ob hb ?_).trans hb.symm)).trans h0
    cases ob <;> first | rfl | simp [hb] at h
theorem DRep.nobk {w w' : World} {q : Nat → Prop} {x : D} {v : Value} (h : DRep w q x v) (hsz : w.heap.size ≤ w'.heap.size) (hk : ∀ (b : Nat) (ob : Obj), w.heap[b]? = some ob → lpd ob = false → w'.heap[b]? = some ob) : DRep w' q x v := by
  have hc := bk_cell hk
  induction h with
  | p x => exact .p x
  | sl sz bt rows a cap b o f hcp ha hl h1 hr ih =>
    refine .sl sz bt rows a cap b o f hcp (fun hne => ?_) hl (fun i j row u h2 h3 => hc _ _ _ (h1 i j row u h2 h3)) ih
    obtain ⟨e1, e2, e3⟩ := ha hne
    exact ⟨e1, e2, Nat.lt_of_lt_of_le e3 hsz⟩
  | mp l b hb hm => exact .mp l b ⟨hb.1, Nat.lt_of_lt_of_le hb.2 hsz⟩ (hk _ _ hm rfl)
  | mm l b bs hb hl hqs hm hi => exact .mm l b bs ⟨hb.1, Nat.lt_of_lt_of_le hb.2 hsz⟩ hl (fun k hk' => ⟨(hqs k hk').1, Nat.lt_of_lt_of_le (hqs k hk').2 hsz⟩) (hk _ _ hm rfl) fun j x k h1 h2 => hk _ _ (hi j x k h1 h2) rfl
theorem VRep.nobk {w w' : World} {q : Nat → Prop} {g : Nat → Nat × Nat} {x : V} {v : Value} (h : VRep w q g x v) (hsz : w.heap.size ≤ w'.heap.size) (hk : ∀ (b : Nat) (ob : Obj), w.heap[b]? = some ob → lpd ob = false → w'.heap[b]? = some ob) : x.bks = false → VRep w' q g x v := by
  have hc := bk_cell hk
  induction h with
  | d x v h => exact fun _ => .d x v (h.nobk hsz hk)
  | ad row b o f hb h1 hr => exact fun _ => .ad row b o f ⟨hb.1, Nat.lt_of_lt_of_le hb.2 hsz⟩ (fun j u hu => hc _ _ _ (h1 j u hu)) (fun j u hu => (hr j u hu).nobk hsz hk)
  | ref r o => exact fun _ => .ref r o
  | own r sz n hn hcap => exact fun _ => .own r sz n hn hcap
  | ownNil r sz => exact fun _ => .ownNil r sz
  | que r sz o n a cap hn hcap h => exact fun _ => .que r sz o n a cap hn hcap h
  | agg l cs hlen h ih => exact fun hm => .agg l cs hlen fun j u c h1 h2 => ih j u c h1 h2 (V.bksL_false.1 hm u (List.mem_of_getElem? h1))
  | tup l cs hlen h ih => exact fun hm => .tup l cs hlen fun j u c h1 h2 => ih j u c h1 h2 (V.bksL_false.1 hm u (List.mem_of_getElem? h1))
  | fn f l cs hlen h ih => exact fun hm => .fn f l cs hlen fun j u c h1 h2 => ih j u c h1 h2 (V.bksL_false.1 hm u (List.mem_of_getElem? h1))
  | mp r N l hN hm => exact fun _ => .mp r N l hN (hk _ _ hm rfl)
  | mq r N l vs hN hl hll hr hm => exact fun _ => .mq r N l vs hN hl hll (fun j x y i u z h1 h2 h3 h4 => (hr j x y i u z h1 h2 h3 h4).nobk hsz hk) (hk _ _ hm rfl)
  | ifc t v x h ih => exact fun hm => .ifc t v x (ih (by simpa [V.bks] using hm))
  | mp2 x r r' N l l' hN hN' hne hm hm' => exact fun _ => .mp2 x r r' N l l' hN hN' hne (hk _ _ hm rfl) (hk _ _ hm' rfl)
  | it r N s pos hN hm => exact fun _ => .it r N s pos hN (hk _ _ hm rfl)
  | mit r rm N l seen hN hm hmm => exact fun _ => .mit r rm N l seen hN (hk _ _ hm rfl) (hk _ _ hmm rfl)
  | mm r N l bs hN hl hbs hnd hm hi => exact fun _ => .mm r N l bs hN hl hbs hnd (hk _ _ hm rfl) fun j x k h1 h2 => hk _ _ (hi j x k h1 h2) rfl
  | blk => exact fun h => by simp [V.bks] at h
  | junk v => exact fun _ => .junk v

/-- What may be kept beside block b. -/
def bkOk (b : Nat) (v : V) : Prop := v.bks = false ∨ ∃ b' N ob, v = .blk b' N ob ∧ b' ≠ b
/-- Nothing but what is kept speaks of a block of the bookkeeping, and that of others than b. -/
structure NoBk (b : Nat) (T : List (Nat × V)) (H : List (Nat × Row)) (K : List V) : Prop where
  T : T.all (fun x => !x.2.bks) = true
  H : H.all (fun x => !V.bksL x.2.cells) = true
  K : ∀ v ∈ K, bkOk b v

theorem Sim.setBlk (hs : Sim c g s a w) {b : Nat} {ob ob' : Obj} (hb : w.heap[b]? = some ob) (hl : lpd ob = true) (hN : c.w0.heap.size ≤ b) (h : NoBk b s.T s.H s.K) : Sim c g s a (w.putObj b ob') := by
  have hlt : b < w.heap.size := (Array.getElem?_eq_some_iff.1 hb).1
  obtain ⟨w', hw'⟩ : ∃ w', w' = w.putObj b ob' := ⟨_, rfl⟩
  have hsz : w'.heap.size = w.heap.size := by rw [hw']; simp
  have hoth : ∀ b', b' ≠ b → w'.heap[b']? = w.heap[b']? := fun b' hne => by rw [hw']; exact World.putObj_heap_other hne
  have hk : ∀ (b' : Nat) (ob1 : Obj), w.heap[b']? = some ob1 → lpd ob1 = false → w'.heap[b']? = some ob1 := fun b' ob1 h1 h2 => (hoth b' fun e => by
    subst e
    rw [hb] at h1
    simp only [Option.some.injEq] at h1
    subst h1
    rw [hl] at h2
    cases h2).trans h1
  have hm : ∀ {v x}, v.bks = false → VRep w (qt c s.H g) g v x → VRep w' (qt c s.H g) g v x := fun hv h => h.nobk (by omega) hk hv
  rw [← hw']
  refine ⟨hs.size, hs.defers, ?_, hs.nul, ?_, ?_, hs.inj, hs.base, hs.low, ?_⟩
  · intro i v hv
    obtain ⟨x, h1, h2⟩ := hs.tmp i v hv
    exact ⟨x, h1, hm (by simpa using List.all_eq_true.1 h.T _ (fnd_mem hv)) h2⟩
  · intro k row hr hn
    obtain ⟨arr, h1, h2, h3⟩ := hs.obj k row hr hn
    refine ⟨arr, hk _ _ h1 rfl, h2, fun j v hv => ?_⟩
    obtain ⟨x, h4, h5⟩ := h3 j v hv
    exact ⟨x, h4, hm (V.bksL_false.1 (by simpa using List.all_eq_true.1 h.H _ (fnd_mem hr)) v (List.mem_of_getElem? hv)) h5⟩
  · intro j v x h1 h2
    have h3 := hs.keep j v x h1 h2
    rcases h.K v (List.mem_of_getElem? h1) with h4 | ⟨b', N, ob2, rfl, h4⟩
    · exact hm h4 h3
    · cases h3 with
      | blk _ _ _ _ h5 h6 h7 => exact .blk _ _ _ _ h5 h6 ((hoth _ h4).trans h7)
  · refine hs.below.trans ⟨by rw [hw']; rfl, by rw [hw']; rfl, by rw [hw']; rfl, by omega, fun k hk => hoth k ?_⟩
    omega
theorem Sim.consK {P : Program} {w0 : World} {out : Nat → Prop} {kx : List Value} {ds : List Deferred} {n : Nat} {T : List (Nat × V)} {H : List (Nat × Row)} {K : List V} {v : V} {x : Value} (hs : Sim ⟨P, w0, out, kx, ds⟩ g ⟨n, T, H, K⟩ a w) (hv : VRep w (qt ⟨P, w0, out, kx, ds⟩ H g) g v x) : Sim ⟨P, w0, out, x :: kx, ds⟩ g ⟨n, T, H, v :: K⟩ a w :=
  ⟨hs.size, hs.defers, hs.tmp, hs.nul, hs.obj, fun j u y h1 h2 => by
    cases j with
    | zero =>
      simp only [List.getElem?_cons_zero, Option.some.injEq] at h1 h2
      subst h1 h2
      exact hv
    | succ j => exact hs.keep j u y (by simpa using h1) (by simpa using h2), hs.inj, hs.base, hs.low, hs.below⟩
theorem Sim.tailK {P : Program} {w0 : World} {out : Nat → Prop} {kx : List Value} {ds : List Deferred} {n : Nat} {T : List (Nat × V)} {H : List (Nat × Row)} {K : List V} {v : V} {x : Value} (hs : Sim ⟨P, w0, out, x :: kx, ds⟩ g ⟨n, T, H, v :: K⟩ a w) : Sim ⟨P, w0, out, kx, ds⟩ g ⟨n, T, H, K⟩ a w :=
  ⟨hs.size, hs.defers, hs.tmp, hs.nul, hs.obj, fun j u y h1 h2 => hs.keep (j + 1) u y (by simpa using h1) (by simpa using h2), hs.inj, hs.base, hs.low, hs.below⟩
theorem Sim.headK {P : Program} {w0 : World} {out : Nat → Prop} {kx : List Value} {ds : List Deferred} {n : Nat} {T : List (Nat × V)} {H : List (Nat × Row)} {K : List V} {b N : Nat} {ob : Obj} {x : Value} (hs : Sim ⟨P, w0, out, x :: kx, ds⟩ g ⟨n, T, H, .blk b N ob :: K⟩ a w) : N ≤ b ∧ w.heap[b]? = some ob := by
  have h := hs.keep 0 _ x rfl rfl
  cases h with
  | blk _ _ _ _ h1 h2 h3 => exact ⟨h1, h3⟩
/-- The kept block holds something else now. -/
theorem Sim.turnK {P : Program} {w0 : World} {out : Nat → Prop} {kx : List Value} {ds : List Deferred} {n : Nat} {T : List (Nat × V)} {H : List (Nat × Row)} {K : List V} {b : Nat} {ob ob' : Obj} {x : Value} (hs : Sim ⟨P, w0, out, x :: kx, ds⟩ g ⟨n, T, H, .blk b w0.heap.size ob :: K⟩ a w) (hl : lpd ob = true) (hl' : lpd ob' = true) (h : NoBk b T H K) :
    Sim ⟨P, w0, out, x :: kx, ds⟩ g ⟨n, T, H, .blk b w0.heap.size ob' :: K⟩ a (w.putObj b ob') := by
  obtain ⟨h1, h2⟩ := hs.headK
  refine Sim.consK (hs.tailK.setBlk h2 hl h1 h) (.blk _ _ _ _ h1 (fun cs ty fz e => ?_) (World.putObj_heap_same (Array.getElem?_eq_some_iff.1 h2).1))
  subst e
  cases hl'

/-- The fence that bars nothing, in a round of the loop whose record is ro. -/
def fw (ro : Option Nat) : Fence := { Fence.wide with round := ro }
/-- As AW, in a round. -/
def AF (ro : Option Nat) (c : Cx) (code : Code) (Q : Exit → S → Prop) (s : S) : Prop := ∀ g a w, Sim c g s a w → code.wpIn (fw ro) 0 c.P (QQ c Q) a w
def LF (ro : Option Nat) (c : Cx) (ops : Array Oper) (l : List Oper) (Q : Exit → S → Prop) (s : S) : Prop := ∀ g a w, Sim c g s a w → wpListIn (fw ro) 0 c.P ops (QQ c Q) l a w
variable {ro : Option Nat}
theorem AF.aw {x : Code} (h : AF none c x Q s) : AW c x Q s := fun g a w hs => wpIn_wide.1 (h g a w hs)
theorem AF.mono {x : Code} (h : AF ro c x Q s) (hq : ∀ e s, Q e s → Q' e s) : AF ro c x Q' s := fun g a w hs => wpIn_mono (h g a w hs) fun _ _ _ => QQ.mono hq
theorem AF.less {x : Code} {s' : S} (hl : Less s' s) (h : AF ro c x Q s') : AF ro c x Q s := fun g a w hs => h g a w (hs.less hl)
theorem AF.seq {x y : Code} (h : AF ro c x (thenS (AF ro c y Q) Q) s) : AF ro c (.seq x y) Q s := fun g a w hs => wpIn_seq (wpIn_mono (h g a w hs) fun e a' w' hq => by
  obtain ⟨g', s', h1, h2⟩ := hq
  cases e <;> first | exact h1 g' a' w' h2 | exact ⟨g', s', h1, h2⟩)
theorem AF.skip (h : Q .normal s) : AF ro c .skip Q s := fun g a w hs => wpIn_skip ⟨g, s, h, hs⟩
theorem AF.ret (h : Q .ret s) : AF ro c .ret Q s := fun g a w hs => wpIn_ret ⟨g, s, h, hs⟩
theorem AF.exit {id : Nat} (h : Q (.exit id) s) : AF ro c (.exit id) Q s := fun g a w hs => wpIn_exit ⟨g, s, h, hs⟩
theorem AF.block {id : Nat} {x : Code} (h : AF ro c x (inBlockS id Q) s) : AF ro c (.block id x) Q s := fun g a w hs => wpIn_block (wpIn_mono (h g a w hs) fun e a' w' hq => by
  obtain ⟨g', s', h1, h2⟩ := hq
  cases e <;> try exact ⟨g', s', h1, h2⟩
  rename_i id'
  simp only [inBlockS] at h1
  simp only [Exit.inBlock]
  split <;> rename_i hh
  · rw [if_pos hh] at h1; exact ⟨g', s', h1, h2⟩
  · rw [if_neg hh] at h1; exact ⟨g', s', h1, h2⟩)
theorem AF.cond {x : Operand} {t e : Code} {b : Bool} (hc : s.ev x = some (.d (.p (.bool b)))) (ht : b = true → AF ro c t Q s) (hf : b = false → AF ro c e Q s) : AF ro c (.cond x t e) Q s := fun g a w hs =>
  wpIn_cond_split (VRep.p_eq (hs.ev hc)) (fun h => ht h g a w hs) (fun h => hf h g a w hs)
/-- No operation of a list is a defer statement. -/
def noDf (l : List Oper) : Bool := l.all fun o => match o.op with | .defer _ => false | _ => true
theorem noDf_head {o : Oper} {l : List Oper} (h : noDf (o :: l) = true) : (∀ d, o.op ≠ .defer d) ∧ noDf l = true := by
  simp only [noDf, List.all_cons, Bool.and_eq_true] at h
  refine ⟨fun d e => ?_, h.2⟩
  rw [e] at h
  exact absurd h.1 (by simp)
theorem op_in {P : Program} {K : Act → World → Prop} {R : Exit → Act → World → Prop} (hd : ∀ d, o.op ≠ .defer d) (h : o.wp P a w K R) : o.wpIn (fw ro) 0 P a w K R := by
  refine ⟨fun f _ => trivial, ?_⟩
  have e : o.semAt (fw ro).round a.eval = execOp a.eval o := by
    cases ro with
    | none => rfl
    | some l => exact Oper.semAt_some l _ _ hd
  rw [e]
  unfold Oper.wp at h
  cases hr : (execOp a.eval o).run P w with
  | ok x w' =>
    rw [hr] at h
    cases x with
    | enter f args => exact ⟨fun h => (by cases h), callsIn_wide.2 h⟩
    | row row args => exact ⟨fun h => (by cases h), fun cs cs' _ => let ⟨v, w', r, s⟩ := h cs cs'; ⟨v, w', r, stepsIn_wide.2 s⟩⟩
    | value v => exact h
    | skip => exact h
    | defer d => exact h
    | _ => exact h.elim
  | halt x w' =>
    rw [hr] at h
    cases x with
    | panic v => exact h
    | _ => exact h.elim
theorem uponIn_mono {F : Fence} {n : Nat} {P : Program} {K K' : Act → World → Prop} {R : Exit → Act → World → Prop} (hq : ∀ a w, K a w → K' a w) {r : Result Next} (h : o.uponIn F n P a K R r) : o.uponIn F n P a K' R r := by
  cases r with
  | ok x w' =>
    cases x with
    | enter f args => exact ⟨h.1, h.2.mono fun e w'' h => by cases e <;> first | exact hq _ _ h | exact h⟩
    | row row args => exact ⟨h.1, h.2.mono fun v w'' h => hq _ _ h⟩
    | round l f tmps asg bd => exact ⟨h.1, h.2.mono fun e w'' h => by cases e <;> first | exact hq _ _ h | exact h⟩
    | value v => exact hq _ _ h
    | skip => exact hq _ _ h
    | defer d => exact hq _ _ h
    | _ => exact h.elim
  | halt x w' => cases x <;> exact h
def noOut (Q : Exit → S → Prop) : Prop := ∀ s, Q .outgrown s → False
theorem list_in {ops : Array Oper} (hq : noOut Q) : ∀ (l : List Oper) (a : Act) (w : World), noDf l = true → wpList c.P ops (QQ c Q) l a w → wpListIn (fw ro) 0 c.P ops (QQ c Q) l a w
  | [], _, _, _, h => h
  | o :: l, a, w, hd, h => by
    obtain ⟨h1, h2⟩ := noDf_head hd
    simp only [wpList] at h
    simp only [wpListIn]
    split
    · rename_i hw
      rw [if_pos hw] at h
      rcases h with h | ⟨_, a', w', g', s', h3, _⟩
      · have := op_in (ro := ro) h1 h
        exact ⟨this.1, uponIn_mono (fun a w h => list_in hq l a w h2 h) this.2⟩
      · exact (hq _ h3).elim
    · rename_i hw
      rw [if_neg hw] at h
      exact ⟨fun f _ => trivial, list_in hq l _ _ h2 h⟩
theorem AF.region {id : Nat} {l : List Oper} (hq : noOut Q) (hd : noDf l = true) (h : AL c l.toArray l Q s) : AF ro c (.region id l.toArray false) Q s := fun g a w hs => wpIn_region_lit (list_in hq l a w hd (h g a w hs))
theorem AF.regionL {id : Nat} {l : List Oper} (h : LF ro c l.toArray l Q s) : AF ro c (.region id l.toArray false) Q s := fun g a w hs => wpIn_region_lit (h g a w hs)
theorem LF.nil {ops : Array Oper} (h : Q .normal s) : LF ro c ops [] Q s := fun g a w hs => ⟨g, s, h, hs⟩
theorem LF.step {ops : Array Oper} {rest : List Oper} (hg : o.guard = none) (hn : ∀ d, o.op ≠ .defer d) (h : Step c o s (LF ro c ops rest Q)) : LF ro c ops (o :: rest) Q s := fun g a w hs =>
  wpListIn_plain hg fun K hK => op_in hn (h g a w hs K _ fun g' s' a' w' h1 h2 => hK a' w' (h1 g' a' w' h2))
theorem LF.rp {ops : Array Oper} {rest : List Oper} {v : V} (hg : o.guard = none) (hn : ∀ d, o.op ≠ .defer d) (hd : dok s o = true) (h : RP c o s v) (hN : LF ro c ops rest Q (s.put o.dst v)) : LF ro c ops (o :: rest) Q s := LF.step hg hn (h.rd.stepM hd hN).step

def lr (r0 : Loop) (st : LoopState) (p : Option Code) : Loop := { r0 with state := st, pending := p }
/-- How a round ends: the iterator goes on with true, or with false and a jump that waits. -/
def QY (lb N : Nat) (r0 : Loop) (n : Nat) (l' : List Nat) (d : Option Tmp) (Nx : S → Prop) : Exit → S → Prop
  | .normal, s3 => ∃ s4, Less s4 s3 ∧ ∃ K3, s4.K = .blk lb N (.loop (lr r0 .busy none)) :: K3 ∧ NoBk lb s4.T s4.H K3 ∧ Nx (S.put ⟨n, l'.zip K3, s4.H, .blk lb N (.loop (lr r0 .ready none)) :: K3.drop l'.length⟩ d (.d (.p (.bool true))))
  | .ret, s3 => ∃ s4, Less s4 s3 ∧ ∃ K3, s4.K = .blk lb N (.loop (lr r0 .busy none)) :: K3 ∧ NoBk lb s4.T s4.H K3 ∧ Nx (S.put ⟨n, l'.zip K3, s4.H, .blk lb N (.loop (lr r0 .done (some .ret))) :: K3.drop l'.length⟩ d (.d (.p (.bool false))))
  | _, _ => False
theorem run_callFunc {P : Program} {f : FuncId} {fn : Func} {code : Code} {n : Nat} {rs : List ResultVar} (hf : Is P f fn code n rs) (args : Array Value) (w : World) : (callFunc f args).run P w = .ok (.enter f args) w := by
  have hn := hf.name
  have hb' : ¬ fn.body = none := by rw [hf.body]; simp
  simp at hn
  simp [callFunc, Sem.run, hf.func, hn, hb', hf.body, program]
theorem exec_yield {P : Program} {ρ : Operand → Value} {fx : Operand} {xs : Array Operand} {ts : Array TypeId} {lb : Nat} (ho : o.op = .call { callee := .value fx, args := xs, argTypes := ts }) (hfx : ρ fx = .func (.yield lb) #[] #[]) : (execOp ρ o).run P w = (Instr.yield lb (xs.map ρ)).run P w := by
  simp [execOp, ho, resolve, Deferred.ofValue, hfx, invoke, callFunc, Sem.run_bind, Result.andThen]
theorem LF.yield {P : Program} {w0 : World} {out : Nat → Prop} {kx1 : List Value} {n n0 lb p : Nat} {T : List (Nat × V)} {H : List (Nat × Row)} {K1 : List V} {ops : Array Oper} {rest : List Oper} {r0 : Loop} {l : List Nat} (l' : List Nat) {ts ts' : List V} {v : V} {fx x : Operand} {tys : Array TypeId} (hg : o.guard = none)
    (ho : o.op = .call { callee := .value fx, args := #[x], argTypes := tys }) (hfx : S.ev ⟨n, T, H, .blk lb w0.heap.size (.loop (lr r0 .ready none)) :: K1⟩ fx = some (.d (.p (.func (.yield lb) #[] #[]))))
    (hx : S.ev ⟨n, T, H, .blk lb w0.heap.size (.loop (lr r0 .ready none)) :: K1⟩ x = some v) (hps : r0.params = #[p]) (hp : p < n0) (hsz : r0.tmps.size = n0)
    (hrel : ∀ (j i : Nat), l[j]? = some i → ∃ y, r0.tmps[i]? = some y ∧ kx1[j + 1]? = some y) (hK1 : ∀ (j : Nat) (u : V), ts[j]? = some u → K1[j + 1]? = some u)
    (hts' : l'.map (fun i => fnd T i) = ts'.map some) (hd : dok ⟨n, T, H, .blk lb w0.heap.size (.loop (lr r0 .ready none)) :: K1⟩ o = true)
    (h : ∀ kx, AF (some lb) ⟨P, w0, out, undef :: kx, []⟩ r0.assign (thenS (fun s1 => ∃ K2, s1.K = .blk lb w0.heap.size (.loop (lr r0 .ready none)) :: K2 ∧ NoBk lb s1.T s1.H K2 ∧
      AF (some lb) ⟨P, w0, out, undef :: kx, []⟩ r0.body (QY lb w0.heap.size r0 n l' o.dst (LF none ⟨P, w0, out, undef :: kx1, []⟩ ops rest Q)) ⟨s1.n, s1.T, s1.H, .blk lb w0.heap.size (.loop (lr r0 .busy none)) :: K2⟩) (fun _ _ => False))
      ⟨n0, (p, v) :: l.zip ts, H, .blk lb w0.heap.size (.loop (lr r0 .ready none)) :: (ts' ++ K1)⟩) :
    LF none ⟨P, w0, out, undef :: kx1, []⟩ ops (o :: rest) Q ⟨n, T, H, .blk lb w0.heap.size (.loop (lr r0 .ready none)) :: K1⟩ := by
  intro g a w hs
  obtain ⟨hNb, hblk⟩ := hs.headK
  have hfe := VRep.p_eq (hs.ev hfx)
  have hxv := hs.ev hx
  have hll : l'.length = ts'.length := by simpa using congrArg List.length hts'
  have hlt' : ∀ (j i : Nat), l'[j]? = some i → ∃ v x, ts'[j]? = some v ∧ fnd T i = some v ∧ a.tmps[i]? = some x ∧ VRep w (qt ⟨P, w0, out, undef :: kx1, []⟩ H g) g v x := by
    intro j i h1
    have hj : j < ts'.length := by rw [← hll]; exact (List.getElem?_eq_some_iff.1 h1).1
    have h3 := congrArg (fun l => l[j]?) hts'
    simp only [List.getElem?_map, h1, List.getElem?_eq_getElem hj, Option.map_some, Option.some.injEq] at h3
    obtain ⟨x, h4, h5⟩ := hs.tmp i _ h3
    exact ⟨_, x, List.getElem?_eq_getElem hj, h3, h4, h5⟩
  have hsim : Sim ⟨P, w0, out, undef :: (l'.map (fun i => a.tmps.getD i undef) ++ kx1), []⟩ g ⟨n0, (p, v) :: l.zip ts, H, .blk lb w0.heap.size (.loop (lr r0 .ready none)) :: (ts' ++ K1)⟩ { tmps := r0.tmps.setIfInBounds p (a.eval x), defers := [] } w := by
    refine ⟨by simpa using hsz, rfl, ?_, hs.nul, hs.obj, ?_, hs.inj, hs.base, hs.low, hs.below⟩
    · intro i u hu
      simp only [fnd] at hu
      split at hu
      · rename_i e
        simp only [beq_iff_eq] at e
        simp only [Option.some.injEq] at hu
        subst e hu
        exact ⟨a.eval x, by simp [hsz, hp], hxv⟩
      · rename_i e
        obtain ⟨j, h1, h2⟩ := fnd_zip l ts i u hu
        obtain ⟨y, h3, h4⟩ := hrel j i h1
        refine ⟨y, ?_, hs.keep (j + 2) u y (by simpa using hK1 j u h2) (by simpa using h4)⟩
        rw [Array.getElem?_setIfInBounds_ne (by simpa using e)]
        exact h3
    · intro j v' x' h1 h2
      cases j with
      | zero => exact hs.keep 0 v' x' h1 h2
      | succ j =>
        simp only [List.getElem?_cons_succ] at h1 h2
        by_cases hj : j < ts'.length
        · rw [List.getElem?_append_left hj] at h1
          rw [List.getElem?_append_left (by simp; omega)] at h2
          simp only [List.getElem?_map] at h2
          cases h3 : l'[j]? with
          | none => rw [h3] at h2; cases h2
          | some i =>
            rw [h3] at h2
            simp only [Option.map_some, Option.some.injEq] at h2
            obtain ⟨v1, x1, h4, h5, h6, h7⟩ := hlt' j i h3
            rw [h4] at h1
            simp only [Option.some.injEq] at h1
            subst h1
            have : x' = x1 := by rw [← h2]; simp [Array.getD_eq_getD_getElem?, h6]
            subst this
            exact h7
        · rw [List.getElem?_append_right (by omega)] at h1
          rw [List.getElem?_append_right (by simp; omega)] at h2
          refine hs.keep (j - ts'.length + 1) v' x' (by simpa using h1) ?_
          simpa [hll] using h2
  refine wpListIn_plain hg fun K hK => ⟨fun f _ => trivial, ?_⟩
  have e0 : o.semAt (fw none).round a.eval = execOp a.eval o := rfl
  have htm : (r0.params.zip #[a.eval x]).foldl (fun tmps (t, a) => tmps.setIfInBounds t a) r0.tmps = r0.tmps.setIfInBounds p (a.eval x) := by rw [hps]; simp [Array.zip]
  have hy := run_yield (P := P) (args := #[a.eval x]) hblk (by simp [lr, hps])
  simp only [lr] at hy
  rw [htm] at hy
  rw [e0, exec_yield ho hfe, show (#[x].map a.eval) = #[a.eval x] by simp, hy]
  refine ⟨fun h => (by cases h), roundIn_of_wpIn trivial ?_⟩
  refine wpIn_mono (h (l'.map (fun i => a.tmps.getD i undef) ++ kx1) g _ w hsim) fun e a1 w1 hq => ?_
  obtain ⟨g1, s1, h1, h2⟩ := hq
  cases e with
  | normal =>
    obtain ⟨K2, hK2, hnb, hbody⟩ := h1
    have h2' : Sim ⟨P, w0, out, undef :: (l'.map (fun i => a.tmps.getD i undef) ++ kx1), []⟩ g1 ⟨s1.n, s1.T, s1.H, .blk lb w0.heap.size (.loop (lr r0 .ready none)) :: K2⟩ a1 w1 := by
      rw [← hK2]; exact h2
    obtain ⟨_, hb1⟩ := h2'.headK
    refine ⟨_, run_beginRound hb1 rfl, ?_⟩
    have h3 := h2'.turnK (ob' := .loop (lr r0 .busy none)) rfl rfl hnb
    refine wpIn_mono (hbody g1 a1 _ h3) fun e a3 w3 hq => ?_
    obtain ⟨g3, s3, h4, h5⟩ := hq
    have fin : ∀ (st : LoopState) (jump : Option Code), lr r0 st jump = { lr r0 .busy none with state := if jump.isNone then .ready else .done, pending := jump } →
        (∃ s4, Less s4 s3 ∧ ∃ K3, s4.K = .blk lb w0.heap.size (.loop (lr r0 .busy none)) :: K3 ∧ NoBk lb s4.T s4.H K3 ∧ LF none ⟨P, w0, out, undef :: kx1, []⟩ ops rest Q (S.put ⟨n, l'.zip K3, s4.H, .blk lb w0.heap.size (.loop (lr r0 st jump)) :: K3.drop l'.length⟩ o.dst (.d (.p (.bool jump.isNone))))) →
        ∃ v w', (Instr.endRound lb jump).run P w3 = .ok v w' ∧ K (a.put o.dst v) w' := by
      rintro st jump hst ⟨s4, hle, K3, hK3, hnb3, hN⟩
      have h6 := h5.less hle
      obtain ⟨n4, T4, H4, K4⟩ := s4
      simp only at hK3
      subst hK3
      have h7 := h6.turnK (ob' := .loop (lr r0 st jump)) rfl rfl hnb3
      refine ⟨_, _, run_endRound jump h6.headK.2, ?_⟩
      rw [← hst]
      refine hK _ _ (hN g3 _ _ (Sim.put (s := ⟨n, l'.zip K3, H4, .blk lb w0.heap.size (.loop (lr r0 st jump)) :: K3.drop l'.length⟩) (c := ⟨P, w0, out, undef :: kx1, []⟩) ?_ o.dst (dok_spec hd) (.d _ _ (.p _))))
      refine ⟨hs.size, hs.defers, ?_, h7.nul, h7.obj, ?_, h7.inj, h7.base, h7.low, h7.below⟩
      · intro i v' hv
        obtain ⟨j, k1, k2⟩ := fnd_zip _ _ i v' hv
        obtain ⟨v1, x1, k3, k4, k5, k6⟩ := hlt' j i k1
        refine ⟨x1, k5, h7.keep (j + 1) v' x1 (by simpa using k2) ?_⟩
        have hj : j < l'.length := (List.getElem?_eq_some_iff.1 k1).1
        simp only [List.getElem?_cons_succ]
        rw [List.getElem?_append_left (by simpa using hj)]
        simp [k1, Array.getD_eq_getD_getElem?, k5]
      · intro j v' x' k1 k2
        cases j with
        | zero => exact h7.keep 0 v' x' k1 k2
        | succ j =>
          refine h7.keep (l'.length + j + 1) v' x' (by simpa using k1) ?_
          simp only [List.getElem?_cons_succ] at k2 ⊢
          rw [List.getElem?_append_right (by simp)]
          simpa using k2
    cases e with
    | normal => exact fin .ready none rfl h4
    | ret => exact fin .done (some .ret) rfl h4
    | _ => exact h4.elim
  | _ => exact h1.elim

/-- How the iterator's own walk ends: the outer frame goes on with a jump or without. -/
def QR (lb N db : Nat) (r0 : Loop) (n : Nat) (l : List Nat) (Nx : Option Code → Nat → S → Prop) : Exit → S → Prop := fun e s1 => (e = .normal ∨ e = .ret) ∧ ∃ s2, Less s2 s1 ∧ ∃ jump st K1, s2.K = .blk lb N (.loop (lr r0 st jump)) :: .blk db N (.deferred (some [])) :: K1 ∧ st ≠ .busy ∧ (jump = none ∨ jump = some .ret) ∧
  NoBk lb (l.zip K1) s2.H (.blk db N (.deferred (some [])) :: K1.drop l.length) ∧ Nx jump db ⟨n, l.zip K1, s2.H, .blk db N (.deferred (some [])) :: K1.drop l.length⟩
def jex : Option Code → Exit
  | none => .normal
  | some _ => .ret
def mk (db : Nat) : List Deferred := [{ target := .collected db, args := #[] }]
theorem range_fn {P : Program} {w0 : World} {out : Nat → Prop} {n p nn : Nat} {T : List (Nat × V)} {H : List (Nat × Row)} {go : Operand} {asg body code : Code} {R : Exit → Act → World → Prop} {f : FuncId} {fn : Func} {caps : List V} (hf : Is P f fn code nn []) (hgo : S.ev ⟨n, T, H, []⟩ go = some (.fn f caps)) (hn : 1 + caps.length ≤ nn) (l : List Nat) {ts : List V} (hts : l.map (fun i => fnd T i) = ts.map some)
    (Nx : Option Code → Nat → S → Prop) (hN : ∀ jump db s', Nx jump db s' → ∀ g a w, Sim ⟨P, w0, out, [undef], mk db⟩ g s' a w → R (jex jump) a w)
    (h : ∀ (lb db : Nat) (kx1 : List Value) (r0 : Loop), db ≠ lb → r0.params = #[p] → r0.tmps.size = n → r0.assign = asg → r0.body = body → (∀ (j i : Nat), l[j]? = some i → ∃ y, r0.tmps[i]? = some y ∧ kx1[j + 1]? = some y) →
      AW ⟨P, w0, out, undef :: kx1, []⟩ code (QR lb w0.heap.size db r0 n l Nx) ⟨nn, enum 0 (.d (.p (.func (.yield lb) #[] #[])) :: caps), H, .blk lb w0.heap.size (.loop (lr r0 .ready none)) :: .blk db w0.heap.size (.deferred (some [])) :: ts⟩) :
    ∀ g a w, Sim ⟨P, w0, out, [], []⟩ g ⟨n, T, H, []⟩ a w → (Code.rangeFunc go #[p] asg body).wp P R a w := by
  intro g a w hs
  have hgv := hs.ev hgo
  obtain ⟨cs, hge, hcl, hcr⟩ : ∃ cs : List Value, a.eval go = .func (.func f) #[] cs.toArray ∧ caps.length = cs.length ∧ ∀ (j : Nat) (u : V) (y : Value), caps[j]? = some u → cs[j]? = some y → VRep w (qt ⟨P, w0, out, [], []⟩ H g) g u y := by
    generalize a.eval go = u at hgv
    cases hgv with
    | fn _ _ cs hl h => exact ⟨cs, rfl, hl, h⟩
  have hll : l.length = ts.length := by simpa using congrArg List.length hts
  have hlt' : ∀ (j i : Nat), l[j]? = some i → ∃ v x, ts[j]? = some v ∧ fnd T i = some v ∧ a.tmps[i]? = some x ∧ VRep w (qt ⟨P, w0, out, [], []⟩ H g) g v x := by
    intro j i h1
    have hj : j < ts.length := by rw [← hll]; exact (List.getElem?_eq_some_iff.1 h1).1
    have h3 := congrArg (fun l => l[j]?) hts
    simp only [List.getElem?_map, h1, List.getElem?_eq_getElem hj, Option.map_some, Option.some.injEq] at h3
    obtain ⟨x, h4, h5⟩ := hs.tmp i _ h3
    exact ⟨_, x, List.getElem?_eq_getElem hj, h3, h4, h5⟩
  refine (wpIn_wide (n := 0)).1 (wpIn_rangeFunc fun fi _ => ?_)
  obtain ⟨r0, hr0⟩ : ∃ r0 : Loop, r0 = { state := .ready, pending := none, fn := fi, tmps := a.tmps, params := #[p], assign := asg, body := body, defers := w.heap.size } := ⟨_, rfl⟩
  obtain ⟨w1, hw1⟩ : ∃ w1, w1 = (w.alloc (.deferred (some []))).alloc (.loop (lr r0 .ready none)) := ⟨_, rfl⟩
  have hB : Below w.heap.size w w1 := by rw [hw1]; exact ((Below.refl _ w).alloc (Nat.le_refl _) _).alloc (by simp) _
  have hL1 : w1.heap[w.heap.size + 1]? = some (.loop (lr r0 .ready none)) := by
    rw [hw1]; have := World.alloc_heap_new (w.alloc (.deferred (some []))) (.loop (lr r0 .ready none)); rwa [World.size_alloc] at this
  have hD1 : w1.heap[w.heap.size]? = some (.deferred (some [])) := by
    rw [hw1]; exact (Below.heap_alloc _ _ _ (by simp)).trans (World.alloc_heap_new w _)
  have hsz : w0.heap.size ≤ w.heap.size := hs.below.size
  have hs1 := hs.move hB
  have hcr1 : ∀ (j : Nat) (u : V) (y : Value), caps[j]? = some u → cs[j]? = some y → VRep w1 (qt ⟨P, w0, out, [], []⟩ H g) g u y := fun j u y h1 h2 => (hcr j u y h1 h2).mono ⟨hB.size, fun b o u _ h1 h2 => (hB.cell (p := ⟨b, o, none⟩) h1).trans h2, Below.maps hB⟩ (fun _ h _ => h) (fun r _ => rfl)
  have hsim : Sim ⟨P, w0, out, undef :: undef :: l.map (fun i => a.tmps.getD i undef), []⟩ g ⟨nn, enum 0 (.d (.p (.func (.yield (w.heap.size + 1)) #[] #[])) :: caps), H, .blk (w.heap.size + 1) w0.heap.size (.loop (lr r0 .ready none)) :: .blk w.heap.size w0.heap.size (.deferred (some [])) :: ts⟩
      { tmps := (#[Value.func (.yield (w.heap.size + 1)) #[] #[]] ++ cs.toArray) ++ Array.replicate (fn.ntmps - (#[Value.func (.yield (w.heap.size + 1)) #[] #[]] ++ cs.toArray).size) undef, defers := [] } w1 := by
    refine Sim.consK (Sim.consK ⟨?_, rfl, ?_, hs1.nul, hs1.obj, ?_, hs1.inj, hs1.base, hs1.low, hs1.below⟩ (.blk _ _ _ _ hsz (fun _ _ _ e => by cases e) hD1)) (.blk _ _ _ _ (by omega) (fun _ _ _ e => by cases e) hL1)
    · simp [hf.ntmps]; omega
    · intro i v hv
      obtain ⟨_, h2⟩ := fnd_enum _ 0 i v hv
      simp only [Nat.sub_zero] at h2
      have hlen : (Value.func (.yield (w.heap.size + 1)) #[] #[] :: cs).length = 1 + caps.length := by simp; omega
      have hi : i < (Value.func (.yield (w.heap.size + 1)) #[] #[] :: cs).length := by
        have := (List.getElem?_eq_some_iff.1 h2).1
        simp at this ⊢; omega
      have harr : #[Value.func (.yield (w.heap.size + 1)) #[] #[]] ++ cs.toArray = (Value.func (.yield (w.heap.size + 1)) #[] #[] :: cs).toArray := by simp
      refine ⟨(Value.func (.yield (w.heap.size + 1)) #[] #[] :: cs)[i], ?_, ?_⟩
      · rw [hf.ntmps, harr]
        exact enter_get (List.getElem?_eq_getElem hi) (by omega)
      · cases i with
        | zero =>
          simp only [List.getElem?_cons_zero, Option.some.injEq] at h2
          subst h2
          exact .d _ _ (.p _)
        | succ i =>
          simp only [List.getElem?_cons_succ] at h2
          exact hcr1 i v _ h2 (by simp at hi ⊢)
    · intro j v x h1 h2
      simp only [List.getElem?_map] at h2
      cases h3 : l[j]? with
      | none => rw [h3] at h2; cases h2
      | some i =>
        rw [h3] at h2
        simp only [Option.map_some, Option.some.injEq] at h2
        obtain ⟨v1, x1, h4, h5, h6, _⟩ := hlt' j i h3
        obtain ⟨x2, h7, h8⟩ := hs1.tmp i _ h5
        rw [h4] at h1
        simp only [Option.some.injEq] at h1
        subst h1
        have : x = x2 := by rw [← h2]; simp [Array.getD_eq_getD_getElem?, h7]
        subst this
        exact h8
  refine ⟨w.heap.size + 1, mk w.heap.size, w1, { target := .fn (.func f) cs.toArray, args := #[.func (.yield (w.heap.size + 1)) #[] #[]] }, w1, f, #[.func (.yield (w.heap.size + 1)) #[] #[]] ++ cs.toArray, w1, ?_, ?_, fun _ _ => trivial, ?_, fun h => (by cases h), ?_⟩
  · rw [hw1, hr0]; exact run_enterLoop_outer _ _ _ _ _
  · simp only [resolve, hge]
    simp [go_sem]
  · simp [invoke, go_sem, run_callFunc hf]
  · refine callsIn_wide.2 (calls_of_wp hf.func hf.body (wp_mono (h (w.heap.size + 1) w.heap.size (undef :: l.map (fun i => a.tmps.getD i undef)) r0 (by omega) (by rw [hr0]) (by rw [hr0]; exact hs.size) (by rw [hr0]) (by rw [hr0]) (fun j i h1 => ?_) g _ w1 hsim) fun e a2 w2 hq => ?_))
    · obtain ⟨v, x, _, _, h3, _⟩ := hlt' j i h1
      refine ⟨x, by rw [hr0]; exact h3, ?_⟩
      simp [h1, Array.getD_eq_getD_getElem?, h3]
    · obtain ⟨g2, s1, ⟨he, s2, hle, jump, st, K1, hK1, hst, hj, hnb, hNx⟩, h2⟩ := hq
      have h3 := h2.less hle
      obtain ⟨n2, T2, H2, K2⟩ := s2
      simp only at hK1
      subst hK1
      have hL := h3.headK.2
      obtain ⟨xr, _, hres⟩ := run_results hf.results h3 (vs := []) trivial
      have hgoal : rangePost Fence.wide 0 P (w.heap.size + 1) R { a with defers := mk w.heap.size ++ a.defers } (.returned xr) w2 := by
        refine ⟨jump, _, run_endLoop hL hst, ?_⟩
        have h4 : Sim ⟨P, w0, out, [undef], mk w.heap.size⟩ g2 ⟨n, l.zip K1, H2, .blk w.heap.size w0.heap.size (.deferred (some [])) :: K1.drop l.length⟩ { a with defers := mk w.heap.size ++ a.defers } w2 := by
          refine ⟨hs.size, by rw [hs.defers]; rfl, ?_, h3.nul, h3.obj, ?_, h3.inj, h3.base, h3.low, h3.below⟩
          · intro i v hv
            obtain ⟨j, k1, k2⟩ := fnd_zip _ _ i v hv
            obtain ⟨v1, x1, k3, k4, k5, k6⟩ := hlt' j i k1
            refine ⟨x1, k5, h3.keep (j + 2) v x1 (by simpa using k2) ?_⟩
            simp [k1, Array.getD_eq_getD_getElem?, k5]
          · intro j v x k1 k2
            cases j with
            | zero => exact h3.keep 1 v x k1 k2
            | succ j => simp at k2
        have h5 := h4.setBlk (ob' := .loop { lr r0 st jump with state := .exhausted }) hL rfl h3.headK.1 hnb
        rcases hj with rfl | rfl
        · exact hN none _ _ hNx g2 _ _ h5
        · exact wpIn_ret (hN (some .ret) _ _ hNx g2 _ _ h5)
      have hfin : a2.defers = [] ∧ ∃ v, (results fn a2.tmps).run P w2 = .ok v w2 ∧ rangePost Fence.wide 0 P (w.heap.size + 1) R { a with defers := mk w.heap.size ++ a.defers } (.returned v) w2 := ⟨h3.defers, _, hres, hgoal⟩
      rcases he with rfl | rfl
      · exact hfin
      · exact hfin
end
end Go.Proofs.YtkikceoccmoanaaGreatDoor
namespace Go.Proofs.YtkikceoccmoanaaGreatDoor
open Go.RowKit
set_option linter.unusedSimpArgs false
set_option linter.unusedVariables false

abbrev V.k (k : IntKind) (n : Int) : V := .d (.p (.int k n))
def baN (l : List Nat) : ByteArray := strOfNums (l.map Int.ofNat)
section
variable {c : Cx} {s : S} {o : Oper}
/-- A number as one of another kind. -/
theorem rp_conv {t t' : TypeId} {x : Operand} {k k' : IntKind} {d : TypeDesc} {m r : Int} (hu : c.P.underlying t = some d) (hd : ∀ e, d ≠ .slice e) (hd' : d ≠ .unsafePointer) (hu' : c.P.underlying t' = some (.int k)) (ho : o.op = .convert t t' x) (hx : s.ev x = some (.k k' m)) (hr : k.wrap m = r) : RP c o s (.k k r) := fun g a w hs =>
  ⟨.int k r, .d _ _ (.p _), fun w' => by
    subst hr
    simp only [execOp, ho, VRep.p_eq (hs.ev hx)]
    simp [convert, run_underlying hu, run_underlying hu', Conv.intToInt]⟩
theorem wrap8 {m : Int} : IntKind.u8.wrap m = m % 256 := IntKind.wrap_u8 m
theorem wrap16 {m : Int} : IntKind.u16.wrap m = m % 65536 := IntKind.wrap_u16 m
theorem wrap64 {m : Int} (h : 0 ≤ m ∧ m ≤ 9223372036854775807) : IntKind.i64.wrap m = m := wrap_in (by omega) (by omega)
theorem wrapU64 {m : Int} (h : 0 ≤ m ∧ m ≤ 9223372036854775807) : IntKind.u64.wrap m = m := by rw [IntKind.wrap_u64]; omega
end
end Go.Proofs.YtkikceoccmoanaaGreatDoor
namespace Go.Proofs.YtkikceoccmoanaaGreatDoor
open Go.RowKit
set_option linter.unusedSimpArgs false
set_option linter.unusedVariables false

def D.one : D → Bool
  | .p x => x.oneCell'
  | .sl _ _ _ => true
  | .mp _ => true
  | .mm _ => true
theorem DRep.one {w : World} {q : Nat → Prop} {u : D} {x : Value} (h : DRep w q u x) (ho : u.one = true) : x.oneCell' = true := by
  cases h with
  | p => exact ho
  | sl => rfl
  | mp => rfl
  | mm => rfl

section
variable {c : Cx} {s : S} {o : Oper} {α : Type}

theorem rp_eqls {t t' : TypeId} {x y : Operand} {a b : ByteArray} (ho : o.op = .binOp .eql t x y t') (hx : s.ev x = some (.s a)) (hy : s.ev y = some (.s b)) : RP c o s (.b (a.toList == b.toList)) :=
  rp_bin ho hx hy fun w => by simp [eqGuard, binOp, Op.stringOp]
theorem rp_neqs {t t' : TypeId} {x y : Operand} {a b : ByteArray} (ho : o.op = .binOp .neq t x y t') (hx : s.ev x = some (.s a)) (hy : s.ev y = some (.s b)) : RP c o s (.b (!(a.toList == b.toList))) :=
  rp_bin ho hx hy fun w => by simp [eqGuard, binOp, Op.stringOp]
theorem rp_eqlsT {t t' : TypeId} {x y : Operand} {a b : ByteArray} (ho : o.op = .binOp .eql t x y t') (hx : s.ev x = some (.s a)) (hy : s.ev y = some (.s b)) (h : a = b) : RP c o s (.b true) := rp_b (rp_eqls ho hx hy) (by simp [h])
theorem rp_neqsF {t t' : TypeId} {x y : Operand} {a b : ByteArray} (ho : o.op = .binOp .neq t x y t') (hx : s.ev x = some (.s a)) (hy : s.ev y = some (.s b)) (h : a = b) : RP c o s (.b false) := rp_b (rp_neqs ho hx hy) (by simp [h])
theorem agg_p {w : World} {q : Nat → Prop} {g : Nat → Nat × Nat} {vs : List Value} {x : Value} (h : VRep w q g (.agg (vs.map fun y => .d (.p y))) x) : x = .agg vs.toArray := by
  generalize hl : vs.map (fun y => V.d (.p y)) = l at h
  cases h with
  | agg _ cs hlen hh =>
    subst hl
    congr 2
    apply List.ext_getElem?
    intro j
    simp only [List.length_map] at hlen
    by_cases hj : j < vs.length
    · have h1 := hh j (.d (.p vs[j])) cs[j] (by simp [hj]) (List.getElem?_eq_getElem (by omega))
      rw [List.getElem?_eq_getElem (show j < cs.length by omega), List.getElem?_eq_getElem hj, VRep.p_eq h1]
    · rw [List.getElem?_eq_none (by omega), List.getElem?_eq_none (by omega)]
/-- Two structs of plain values are held against each other. -/
theorem rp_bin_agg {op : BinOp} {t t' : TypeId} {x y : Operand} (us vs : List Value) {b : Bool} (ho : o.op = .binOp op t x y t') (hx : s.ev x = some (.agg (us.map fun y => .d (.p y)))) (hy : s.ev y = some (.agg (vs.map fun y => .d (.p y))))
    (hg : ∀ w, (eqGuard op t x y (.agg us.toArray) (.agg vs.toArray)).run c.P w = .ok () w) (hr : ∀ w, (binOp op t (.agg us.toArray) (.agg vs.toArray)).run c.P w = .ok (.bool b) w) : RP c o s (.b b) := fun g a w hs =>
  ⟨.bool b, .d _ _ (.p _), fun w' => by
    simp only [execOp, ho, agg_p (hs.ev hx), agg_p (hs.ev hy), Sem.run_bind, hg w', hr w', Result.andThen_ok]
    rfl⟩

/-- A cell that holds nil holds a slice that may grow. -/
theorem Sim.adoptH {g : Nat → Nat × Nat} {a : Act} {w : World} (hs : Sim c g s a w) {b j r sz : Nat} {ty : TypeId} {row : Row} (hb : fnd s.H b = some row) (hn : row.nil = false) (hj : row.cells[j]? = some .nil) (hr : s.clean r = true) : Sim c g ⟨s.n, s.T, (b, { row with cells := row.cells.set j (.own r sz 0 true) }) :: (r, ⟨ty, [], true, sz⟩) :: s.H, s.K⟩ a w := by
  have hbr : b ≠ r := (S.clean_obj hr hb).1
  have hfn : ∀ k row', fnd ((b, { row with cells := row.cells.set j (.own r sz 0 true) }) :: (r, (⟨ty, [], true, sz⟩ : Row)) :: s.H) k = some row' → k = b ∧ row' = { row with cells := row.cells.set j (.own r sz 0 true) } ∨ k ≠ b ∧ k = r ∧ row' = ⟨ty, [], true, sz⟩ ∨ k ≠ b ∧ k ≠ r ∧ fnd s.H k = some row' := by
    intro k row' hk
    by_cases e : k = b
    · subst e; simp [fnd] at hk; exact .inl ⟨rfl, hk.symm⟩
    · by_cases e' : k = r
      · subst e'; simp [fnd, e, Ne.symm e] at hk; exact .inr (.inl ⟨e, rfl, hk.symm⟩)
      · simp only [fnd, beq_iff_eq, Ne.symm e, Ne.symm e', if_false] at hk; exact .inr (.inr ⟨e, e', hk⟩)
  have hq : ∀ x, qt c s.H g x → x < w.heap.size → qt c ((b, { row with cells := row.cells.set j (.own r sz 0 true) }) :: (r, (⟨ty, [], true, sz⟩ : Row)) :: s.H) g x := by
    intro x hx _
    refine ⟨hx.1, fun k row' hk hkn => ?_⟩
    rcases hfn k row' hk with ⟨rfl, rfl⟩ | ⟨_, rfl, rfl⟩ | ⟨_, _, h⟩
    · exact hx.2 _ row hb hn
    · cases hkn
    · exact hx.2 k row' h hkn
  have hm : ∀ {v x}, VRep w (qt c s.H g) g v x → VRep w (qt c ((b, { row with cells := row.cells.set j (.own r sz 0 true) }) :: (r, (⟨ty, [], true, sz⟩ : Row)) :: s.H) g) g v x := fun hv => hv.mono Cells.rfl hq (fun _ _ => rfl)
  refine ⟨hs.size, hs.defers, ?_, ?_, ?_, ?_, ?_, ?_, hs.low, hs.below⟩
  · intro i v hv
    obtain ⟨x, h1, h2⟩ := hs.tmp i v hv
    exact ⟨x, h1, hm h2⟩
  · intro k row' hk hkn
    rcases hfn k row' hk with ⟨rfl, rfl⟩ | ⟨_, rfl, rfl⟩ | ⟨_, _, h⟩
    · simp only at hkn; rw [hn] at hkn; cases hkn
    · rfl
    · exact hs.nul k row' h hkn
  · intro k row' hk hkn
    rcases hfn k row' hk with ⟨rfl, rfl⟩ | ⟨_, rfl, rfl⟩ | ⟨_, _, h⟩
    · obtain ⟨arr, h1, h2, h3⟩ := hs.obj _ row hb hn
      refine ⟨arr, h1, h2, fun i v hv => ?_⟩
      simp only [List.getElem?_set] at hv
      split at hv
      · rename_i e
        subst e
        split at hv
        · simp only [Option.some.injEq] at hv
          subst hv
          obtain ⟨x, h4, h5⟩ := h3 j _ hj
          refine ⟨x, h4, ?_⟩
          rw [VRep.p_eq h5]
          exact .ownNil r sz
        · cases hv
      · obtain ⟨x, h4, h5⟩ := h3 i v hv
        exact ⟨x, h4, hm h5⟩
    · cases hkn
    · obtain ⟨arr, h1, h2, h3⟩ := hs.obj k row' h hkn
      refine ⟨arr, h1, h2, fun i v hv => ?_⟩
      obtain ⟨x, h4, h5⟩ := h3 i v hv
      exact ⟨x, h4, hm h5⟩
  · intro i v x h1 h2
    exact hm (hs.keep i v x h1 h2)
  · intro k k' row1 row2 h1 n1 h2 n2 h3
    rcases hfn k row1 h1 with ⟨rfl, rfl⟩ | ⟨_, rfl, rfl⟩ | ⟨e1, _, h⟩ <;> rcases hfn k' row2 h2 with ⟨rfl, rfl⟩ | ⟨_, rfl, rfl⟩ | ⟨e2, _, h'⟩
    · rfl
    · cases n2
    · exact hs.inj _ _ _ _ hb hn h' n2 h3
    · cases n1
    · cases n1
    · cases n1
    · exact hs.inj _ _ _ _ h n1 hb hn h3
    · cases n2
    · exact hs.inj _ _ _ _ h n1 h' n2 h3
  · intro k row' hk hkn
    rcases hfn k row' hk with ⟨rfl, rfl⟩ | ⟨_, rfl, rfl⟩ | ⟨_, _, h⟩
    · exact hs.base _ row hb hn
    · cases hkn
    · exact hs.base k _ h hkn
theorem AW.adoptH {Q : Exit → S → Prop} {code : Code} (b j r sz : Nat) (ty : TypeId) {row : Row} (hb : fnd s.H b = some row) (hn : row.nil = false) (hj : row.cells[j]? = some .nil) (hr : s.clean r = true)
    (h : AW c code Q ⟨s.n, s.T, (b, { row with cells := row.cells.set j (.own r sz 0 true) }) :: (r, ⟨ty, [], true, sz⟩) :: s.H, s.K⟩) : AW c code Q s := fun g a w hs => h g a w (hs.adoptH hb hn hj hr)
/-- A cell that holds a slice of the call's own holds plain data. -/
theorem Sim.freezeH {g : Nat → Nat × Nat} {a : Act} {w : World} (hs : Sim c g s a w) {b j r sz bt n : Nat} {f : Bool} {row0 row : Row} {rows : List (List D)} (hb : fnd s.H b = some row0) (hn0 : row0.nil = false) (hj : row0.cells[j]? = some (.own r sz n f)) (hbr : b ≠ r) (hr : fnd s.H r = some row) (hf : row.nil = f) (hlen : rows.length = n) (hn : n * bt ≤ 140737488355328)
    (hrows : ∀ (i j : Nat) (l : List D) (u : D), rows[i]? = some l → l[j]? = some u → row.cells[i * sz + j]? = some (.d u)) : Sim c g ⟨s.n, s.T, (b, { row0 with cells := row0.cells.set j (.d (.sl sz bt rows)) }) :: s.H.filter (fun x => x.1 != r), s.K⟩ a w := by
  have hfn : ∀ k row', fnd ((b, { row0 with cells := row0.cells.set j (.d (.sl sz bt rows)) }) :: s.H.filter (fun x => x.1 != r)) k = some row' → k = b ∧ row' = { row0 with cells := row0.cells.set j (.d (.sl sz bt rows)) } ∨ k ≠ b ∧ k ≠ r ∧ fnd s.H k = some row' := by
    intro k row' hk
    by_cases e : k = b
    · subst e; simp [fnd] at hk; exact .inl ⟨rfl, hk.symm⟩
    · simp only [fnd, beq_iff_eq, Ne.symm e, if_false] at hk
      have e' : k ≠ r := by rintro rfl; rw [fnd_filter_self] at hk; cases hk
      rw [fnd_filter r _ _ e'] at hk
      exact .inr ⟨e, e', hk⟩
  have hq : ∀ x, qt c s.H g x → x < w.heap.size → qt c ((b, { row0 with cells := row0.cells.set j (.d (.sl sz bt rows)) }) :: s.H.filter (fun x => x.1 != r)) g x := by
    intro x hx _
    refine ⟨hx.1, fun k row' hk hkn => ?_⟩
    rcases hfn k row' hk with ⟨rfl, rfl⟩ | ⟨_, _, h⟩
    · exact hx.2 _ row0 hb hn0
    · exact hx.2 k row' h hkn
  have hm : ∀ {v x}, VRep w (qt c s.H g) g v x → VRep w (qt c ((b, { row0 with cells := row0.cells.set j (.d (.sl sz bt rows)) }) :: s.H.filter (fun x => x.1 != r)) g) g v x := fun hv => hv.mono Cells.rfl hq (fun _ _ => rfl)
  refine ⟨hs.size, hs.defers, ?_, ?_, ?_, ?_, ?_, ?_, hs.low, hs.below⟩
  · intro i v hv
    obtain ⟨x, h1, h2⟩ := hs.tmp i v hv
    exact ⟨x, h1, hm h2⟩
  · intro k row' hk hkn
    rcases hfn k row' hk with ⟨rfl, rfl⟩ | ⟨_, _, h⟩
    · simp only at hkn; rw [hn0] at hkn; cases hkn
    · exact hs.nul k row' h hkn
  · intro k row' hk hkn
    rcases hfn k row' hk with ⟨rfl, rfl⟩ | ⟨_, _, h⟩
    · obtain ⟨arr, h1, h2, h3⟩ := hs.obj _ row0 hb hn0
      refine ⟨arr, h1, h2, fun i v hv => ?_⟩
      simp only [List.getElem?_set] at hv
      split at hv
      · rename_i e
        subst e
        split at hv
        · simp only [Option.some.injEq] at hv
          subst hv
          obtain ⟨x, h4, h5⟩ := h3 j _ hj
          refine ⟨x, h4, .d _ _ ?_⟩
          cases h5 with
          | own _ _ _ hle hcap =>
            obtain ⟨ar2, h6, _, h7⟩ := hs.obj r row hr hf
            subst hlen
            have hob : ¬ c.out (g r).1 := fun h => by
              have h8 := hs.low _ h
              have h9 := hs.base r row hr hf
              omega
            refine .sl sz bt rows _ _ (g r).1 0 (fun i j => ar2.getD (i * sz + j) undef) hle (fun _ => ⟨rfl, ⟨hob, fun k row' hk hkn e => ?_⟩, (Array.getElem?_eq_some_iff.1 h6).1⟩) hn ?_ ?_
            · rcases hfn k row' hk with ⟨rfl, rfl⟩ | ⟨_, k1, k2⟩
              · exact hbr (hs.inj _ r _ _ hb hn0 hr hf e)
              · exact k1 (hs.inj k r _ _ k2 hkn hr hf e)
            · intro i j l u hi hj
              obtain ⟨y, h8, h9⟩ := h7 _ _ (hrows i j l u hi hj)
              rw [Nat.zero_add, cell_of_row w _ _ _ _ _ h6, h8]
              simp [Array.getD_eq_getD_getElem?, h8]
            · intro i j l u hi hj
              obtain ⟨y, h8, h9⟩ := h7 _ _ (hrows i j l u hi hj)
              cases hm h9 with
              | d _ _ h10 => simpa [Array.getD_eq_getD_getElem?, h8] using h10
          | ownNil =>
            have : rows = [] := by simpa using hlen
            subst this
            exact .sl sz bt [] none 0 0 0 (fun _ _ => undef) (Nat.le_refl 0) (fun h => absurd rfl h) (by simp) (by simp) (by simp)
        · cases hv
      · obtain ⟨x, h4, h5⟩ := h3 i v hv
        exact ⟨x, h4, hm h5⟩
    · obtain ⟨arr, h1, h2, h3⟩ := hs.obj k row' h hkn
      refine ⟨arr, h1, h2, fun i v hv => ?_⟩
      obtain ⟨x, h4, h5⟩ := h3 i v hv
      exact ⟨x, h4, hm h5⟩
  · intro i v x h1 h2
    exact hm (hs.keep i v x h1 h2)
  · intro k k' row1 row2 h1 n1 h2 n2 h3
    rcases hfn k row1 h1 with ⟨rfl, rfl⟩ | ⟨e1, _, h⟩ <;> rcases hfn k' row2 h2 with ⟨rfl, rfl⟩ | ⟨e2, _, h'⟩
    · rfl
    · exact hs.inj _ _ _ _ hb hn0 h' n2 h3
    · exact hs.inj _ _ _ _ h n1 hb hn0 h3
    · exact hs.inj _ _ _ _ h n1 h' n2 h3
  · intro k row' hk hkn
    rcases hfn k row' hk with ⟨rfl, rfl⟩ | ⟨_, _, h⟩
    · exact hs.base _ row0 hb hn0
    · exact hs.base k _ h hkn
theorem AW.freezeH {Q : Exit → S → Prop} {code : Code} (b j bt : Nat) {r sz n : Nat} {f : Bool} {row0 row : Row} (rows : List (List D)) (hb : fnd s.H b = some row0) (hn0 : row0.nil = false) (hj : row0.cells[j]? = some (.own r sz n f)) (hbr : b ≠ r) (hr : fnd s.H r = some row) (hf : row.nil = f) (hlen : rows.length = n) (hn : n * bt ≤ 140737488355328)
    (hrows : ∀ (i j : Nat) (l : List D) (u : D), rows[i]? = some l → l[j]? = some u → row.cells[i * sz + j]? = some (.d u)) (h : AW c code Q ⟨s.n, s.T, (b, { row0 with cells := row0.cells.set j (.d (.sl sz bt rows)) }) :: s.H.filter (fun x => x.1 != r), s.K⟩) : AW c code Q s :=
  fun g a w hs => h g a w (hs.freezeH hb hn0 hj hbr hr hf hlen hn hrows)
theorem rowsF {l : List α} {enc : α → List D} {sz : Nat} (hsz : ∀ x, (enc x).length = sz) {cells : List V} (h : cells = l.flatMap (fun x => (enc x).map V.d)) : ∀ (i j : Nat) (l' : List D) (u : D), (l.map enc)[i]? = some l' → l'[j]? = some u → cells[i * sz + j]? = some (.d u) := by
  intro i j l' u h1 h2
  rw [List.getElem?_map] at h1
  cases h3 : l[i]? with
  | none => rw [h3] at h1; cases h1
  | some x =>
    rw [h3] at h1
    simp only [Option.map_some, Option.some.injEq] at h1
    subst h1 h
    induction l generalizing i with
    | nil => simp at h3
    | cons y l ih =>
      rw [List.flatMap_cons]
      cases i with
      | zero =>
        simp at h3
        subst h3
        rw [Nat.zero_mul, Nat.zero_add, List.getElem?_append_left (by simp; exact (List.getElem?_eq_some_iff.1 h2).1)]
        simp [h2]
      | succ i =>
        rw [List.getElem?_append_right (by simp [hsz]; rw [Nat.succ_mul]; omega)]
        simp only [List.length_map, hsz]
        rw [show (i + 1) * sz + j - sz = i * sz + j by rw [Nat.succ_mul]; omega]
        exact ih i (by simpa using h3)
theorem st_appendF {t e : TypeId} {x y : Operand} {r r2 sz bt n m : Nat} {z : Value} {f : Bool} {row row2 : Row} {news : List V} (hu : c.P.underlying t = some (.slice e)) (hi : Inf c.P e sz bt z) (hzs : z.cells.size = sz) (hsz : 0 < sz)
    (ho : o.op = .call { callee := .builtin .append, args := #[x, y], argTypes := #[t, t] }) (hx : s.ev x = some (.own r sz n f)) (hr : fnd s.H r = some row) (hf : row.nil = f) (hrz : row.sz = sz) (hty : row.ty = e)
    (hl1 : row.cells.length = n * sz) (hc1 : V.hasL r row.cells = false) (hy : s.ev y = some (.own r2 sz m false)) (hr2 : fnd s.H r2 = some row2) (hf2 : row2.nil = false) (hnews : row2.cells.take (m * sz) = news) (hnl : news.length = m * sz) (hc2 : V.hasL r news = false) (hone : news.all V.one = true) (hm : 0 < m) (h63 : n + m ≤ 140737488355328) (hbt : (n + m) * bt ≤ 140737488355328) (hd : dok s o = true) :
    Step c o s (fun s' => s' = S.put ⟨s.n, (s.forget r).T, (r, ⟨e, row.cells ++ news, false, sz⟩) :: (s.forget r).H, (s.forget r).K⟩ o.dst (.own r sz (n + m) false)) :=
  st_append hu hi hzs hsz ho hx hr hf hrz hty (List.take_of_length_le (by omega)) hl1 hc1 hy hr2 hf2 hnews hnl hc2 hone hm h63 hbt hd
@[simp] theorem hasL_append (r : Nat) (l l' : List V) : V.hasL r (l ++ l') = (V.hasL r l || V.hasL r l') := by
  induction l with
  | nil => rfl
  | cons v l ih => simp [V.hasL, ih, Bool.or_assoc]
@[simp] theorem hasL_flat (r : Nat) (l : List α) (enc : α → List D) : V.hasL r (l.flatMap (fun x => (enc x).map V.d)) = false := by
  simp [V.hasL_false, V.has]
  intro v x _ u _ h
  subst h
  rfl
end
end Go.Proofs.YtkikceoccmoanaaGreatDoor
namespace Go.Proofs.YtkikceoccmoanaaGreatDoor
open Go.RowKit
set_option linter.unusedSimpArgs false
set_option linter.unusedVariables false

/-- A value as a callee sees it that only reads. -/
inductive Ro (s : S) : V → V → Prop
  | refl (v : V) (hv : v.pure) : Ro s v v
  | ref (r k : Nat) (row : Row) (l : List D) (hr : fnd s.H r = some row) (hn : row.nil = false) (hl : row.cells.drop k = l.map V.d) : Ro s (.ref r k) (.ad l)
  | own (r sz n bt : Nat) (f : Bool) (row : Row) (rows : List (List D)) (hr : fnd s.H r = some row) (hf : row.nil = f) (hlen : rows.length = n) (hn : n * bt ≤ 140737488355328)
      (hrows : ∀ (i j : Nat) (l : List D) (u : D), rows[i]? = some l → l[j]? = some u → row.cells[i * sz + j]? = some (.d u)) : Ro s (.own r sz n f) (.d (.sl sz bt rows))
  | fn (f : FuncId) (us vs : List V) (hl : us.length = vs.length) (h : ∀ (j : Nat) (u v : V), us[j]? = some u → vs[j]? = some v → Ro s u v) : Ro s (.fn f us) (.fn f vs)
inductive Ros (s : S) : List V → List V → Prop
  | nil : Ros s [] []
  | cons {u v : V} {us vs : List V} (h : Ro s u v) (hs : Ros s us vs) : Ros s (u :: us) (v :: vs)
theorem Ros.get {s : S} {us vs : List V} (h : Ros s us vs) : us.length = vs.length ∧ ∀ (j : Nat) (u v : V), us[j]? = some u → vs[j]? = some v → Ro s u v := by
  induction h with
  | nil => exact ⟨rfl, by simp⟩
  | cons h hs ih =>
    refine ⟨by simp [ih.1], fun j u v hu hv => ?_⟩
    cases j with
    | zero => simp at hu hv; subst hu hv; exact h
    | succ j => exact ih.2 j u v (by simpa using hu) (by simpa using hv)
theorem Ro.fns {s : S} {f : FuncId} {us vs : List V} (h : Ros s us vs) : Ro s (.fn f us) (.fn f vs) := .fn f us vs h.get.1 h.get.2

/-- A value that hangs on no memory. -/
def V.plain : V → Prop
  | .d (.p _) => True
  | .tup l => ∀ v ∈ l, ∃ x, v = .d (.p x)
  | .agg l => ∀ v ∈ l, ∃ x, v = .d (.p x)
  | _ => False

section
variable {c : Cx} {s : S} {o : Oper} {g : Nat → Nat × Nat} {a : Act} {w : World}

theorem Ro.rep (hs : Sim c g s a w) {u v : V} (h : Ro s u v) : ∀ {x : Value}, VRep w (qt c s.H g) g u x → VRep w (fun b => ¬ c.out b) g v x := by
  have hq : ∀ b, qt c s.H g b → b < w.heap.size → ¬ c.out b := fun b hb _ => hb.1
  have hm : ∀ {v x}, VRep w (qt c s.H g) g v x → VRep w (fun b => ¬ c.out b) g v x := fun hv => hv.mono Cells.rfl hq (fun _ _ => rfl)
  have hob : ∀ r row, fnd s.H r = some row → row.nil = false → ¬ c.out (g r).1 := fun r row hr hn h => by
    have h1 := hs.low _ h
    have h2 := hs.base r row hr hn
    omega
  induction h with
  | refl v hv => intro x hx; exact hm hx
  | ref r k row l hr hn hl =>
    intro x hx
    cases hx
    obtain ⟨arr, h1, _, h2⟩ := hs.obj r row hr hn
    have hat : ∀ (j : Nat) (u : D), l[j]? = some u → row.cells[k + j]? = some (.d u) := by
      intro j u hu
      have : (row.cells.drop k)[j]? = some (.d u) := by rw [hl]; simp [hu]
      simpa using this
    refine .ad l (g r).1 k (fun j => arr.getD (k + j) undef) ⟨hob r row hr hn, (Array.getElem?_eq_some_iff.1 h1).1⟩ (fun j u hu => ?_) (fun j u hu => ?_)
    · obtain ⟨y, h3, _⟩ := h2 _ _ (hat j u hu)
      rw [cell_of_row w _ _ _ _ _ h1, h3]
      simp [Array.getD_eq_getD_getElem?, h3]
    · obtain ⟨y, h3, h4⟩ := h2 _ _ (hat j u hu)
      cases hm h4 with
      | d _ _ h5 => simpa [Array.getD_eq_getD_getElem?, h3] using h5
  | own r sz n bt f row rows hr hf hlen hn hrows =>
    intro x hx
    refine .d _ _ ?_
    cases hx with
    | own _ _ _ hle hcap =>
      obtain ⟨arr, h1, _, h2⟩ := hs.obj r row hr hf
      subst hlen
      refine .sl sz bt rows _ _ (g r).1 0 (fun i j => arr.getD (i * sz + j) undef) (by omega) (fun _ => ⟨rfl, hob r row hr hf, (Array.getElem?_eq_some_iff.1 h1).1⟩) hn ?_ ?_
      · intro i j l u hi hj
        obtain ⟨y, h3, _⟩ := h2 _ _ (hrows i j l u hi hj)
        rw [Nat.zero_add, cell_of_row w _ _ _ _ _ h1, h3]
        simp [Array.getD_eq_getD_getElem?, h3]
      · intro i j l u hi hj
        obtain ⟨y, h3, h4⟩ := h2 _ _ (hrows i j l u hi hj)
        cases hm h4 with
        | d _ _ h5 => simpa [Array.getD_eq_getD_getElem?, h3] using h5
    | ownNil =>
      have : rows = [] := by simpa using hlen
      subst this
      exact .sl sz bt [] none 0 0 0 (fun _ _ => undef) (Nat.le_refl 0) (fun h => absurd rfl h) (by simp) (by simp) (by simp)
  | fn f us vs hl h ih =>
    intro x hx
    cases hx with
    | fn _ _ cs hlen hh =>
      refine .fn f vs cs (by omega) fun j v y hv hy => ?_
      have hj : j < us.length := by rw [hl]; exact (List.getElem?_eq_some_iff.1 hv).1
      exact ih j us[j] v (List.getElem?_eq_getElem hj) hv (hh j us[j] y (List.getElem?_eq_getElem hj) hy)

theorem fn_eval (hs : Sim c g s a w) {fx : Operand} {f : FuncId} {caps : List V} (hfx : s.ev fx = some (.fn f caps)) : ∃ cs : List Value, a.eval fx = .func (.func f) #[] cs.toArray ∧ caps.length = cs.length ∧ ∀ (j : Nat) (u : V) (y : Value), caps[j]? = some u → cs[j]? = some y → VRep w (qt c s.H g) g u y := by
  have hfv := hs.ev hfx
  generalize a.eval fx = u at hfv
  cases hfv with
  | fn _ _ cs hl h => exact ⟨cs, rfl, hl, h⟩
theorem args_eval (hs : Sim c g s a w) {xs : Array Operand} {ars : List V} (hargs : xs.toList.map s.ev = ars.map some) : ars.length = (xs.toList.map a.eval).length ∧ ∀ (j : Nat) (u : V) (y : Value), ars[j]? = some u → (xs.toList.map a.eval)[j]? = some y → VRep w (qt c s.H g) g u y := by
  refine ⟨by simpa using (congrArg List.length hargs).symm, fun j u y hu hy => ?_⟩
  have h1 := congrArg (fun l => l[j]?) hargs
  simp only [List.getElem?_map, hu, Option.map_some] at h1 hy
  cases h2 : xs.toList[j]? with
  | none => rw [h2] at h1; cases h1
  | some p =>
    rw [h2] at h1 hy
    simp only [Option.map_some, Option.some.injEq] at h1 hy
    subst hy
    exact hs.ev h1

/-- A call, of a function or of a closure, that changes nothing and answers something plain; it may read the caller's objects. -/
theorem sm_callr {fx : Operand} {xs : Array Operand} {ts : Array TypeId} {f : FuncId} {fn : Func} {code : Code} {n : Nat} {rs : List ResultVar} {us caps args : List V} {post : V → Prop} (hfn : Fn c.P f args post) (hpl : ∀ v, post v → v.plain) (hf : Is c.P f fn code n rs) (ho : o.op = .call { callee := .value fx, args := xs, argTypes := ts })
    (hfx : s.ev fx = some (.fn f caps)) (hargs : xs.toList.map s.ev = us.map some) (hro : Ros s (us ++ caps) args) (hd : dok s o = true) : StepM c o s (fun s' => ∃ v, post v ∧ v.pure ∧ s' = s.put o.dst v) := by
  intro g a w hs K Q hK
  obtain ⟨cs, hfx', hcl, hcr⟩ := fn_eval hs hfx
  obtain ⟨hal, har⟩ := args_eval hs hargs
  obtain ⟨hrl, hrr⟩ := hro.get
  have hx : VReps w (fun b => ¬ c.out b) g args ((xs.toList.map a.eval) ++ cs) := by
    refine ⟨by rw [← hrl]; simp at hal ⊢; omega, fun j v y hv hy => ?_⟩
    have hj : j < (us ++ caps).length := by rw [hrl]; exact (List.getElem?_eq_some_iff.1 hv).1
    have hu := List.getElem?_eq_getElem hj
    refine (hrr j _ v hu hv).rep hs ?_
    by_cases h1 : j < us.length
    · rw [List.getElem?_append_left h1] at hu
      rw [List.getElem?_append_left (by omega)] at hy
      exact har j _ y hu hy
    · rw [List.getElem?_append_right (by omega)] at hu
      rw [List.getElem?_append_right (by omega), ← hal] at hy
      exact hcr _ _ y hu hy
  unfold Oper.wp
  rw [exec_call (caps := cs) hf ho hfx']
  simp only [Oper.upon]
  refine (hfn w c.out g _ (fun b h => Nat.lt_of_lt_of_le (hs.low b h) hs.below.size) hx).mono ?_
  rintro e w' ⟨v, x, rfl, h1, h2, h3, h4⟩
  refine hK g _ _ _ ⟨v, h1, h2, rfl⟩ ((hs.move h4).put o.dst (dok_spec hd) ?_) h4
  have hp := hpl v h1
  have hdp : ∀ {y z}, VRep w' (fun b => ¬ c.out b) g (.d (.p y)) z → VRep w' (qt c s.H g) g (.d (.p y)) z := fun h => by
    rw [VRep.p_eq h]; exact .d _ _ (.p _)
  cases v with
  | d dx =>
    cases dx with
    | p => exact hdp h3
    | sl => exact hp.elim
    | mp => exact hp.elim
    | mm => exact hp.elim
  | tup l =>
    cases h3 with
    | tup _ cs' hl hh =>
      refine .tup l cs' hl fun j u z hu hz => ?_
      obtain ⟨y, rfl⟩ := hp u (List.mem_of_getElem? hu)
      exact hdp (hh j _ z hu hz)
  | agg l =>
    cases h3 with
    | agg _ cs' hl hh =>
      refine .agg l cs' hl fun j u z hu hz => ?_
      obtain ⟨y, rfl⟩ := hp u (List.mem_of_getElem? hu)
      exact hdp (hh j _ z hu hz)
  | _ => exact hp.elim
/-- A call of a function value whose captured values are plain. -/
theorem sm_callv {fx : Operand} {xs : Array Operand} {ts : Array TypeId} {f : FuncId} {fn : Func} {code : Code} {n : Nat} {rs : List ResultVar} {args caps : List V} {post : V → Prop} (hfn : Fn c.P f (args ++ caps) post) (hf : Is c.P f fn code n rs) (ho : o.op = .call { callee := .value fx, args := xs, argTypes := ts })
    (hfx : s.ev fx = some (.fn f caps)) (hargs : xs.toList.map s.ev = args.map some) (hd : dok s o = true) : StepM c o s (fun s' => ∃ v, post v ∧ v.pure ∧ s' = s.put o.dst v) := by
  intro g a w hs K Q hK
  obtain ⟨cs, hfx', hcl, hcr⟩ := fn_eval hs hfx
  obtain ⟨hal, har⟩ := args_eval hs hargs
  have hx : VReps w (fun b => ¬ ¬ qt c s.H g b) g (args ++ caps) ((xs.toList.map a.eval) ++ cs) := by
    refine ⟨by simp at hal ⊢; omega, fun j u y hu hy => ?_⟩
    have hm : ∀ {v x}, VRep w (qt c s.H g) g v x → VRep w (fun b => ¬ ¬ qt c s.H g b) g v x := fun hv => hv.mono Cells.rfl (fun b hb _ => not_not_intro hb) (fun _ _ => rfl)
    refine hm ?_
    by_cases h1 : j < args.length
    · rw [List.getElem?_append_left h1] at hu
      rw [List.getElem?_append_left (by omega)] at hy
      exact har j _ y hu hy
    · rw [List.getElem?_append_right (by omega)] at hu
      rw [List.getElem?_append_right (by omega), ← hal] at hy
      exact hcr _ _ y hu hy
  unfold Oper.wp
  rw [exec_call (caps := cs) hf ho hfx']
  simp only [Oper.upon]
  refine (hfn w (fun b => ¬ qt c s.H g b) g _ ?_ hx).mono ?_
  · intro b hb
    rcases Classical.em (c.out b) with h | h
    · exact Nat.lt_of_lt_of_le (hs.low b h) hs.below.size
    · rcases Classical.em (∃ r row, fnd s.H r = some row ∧ row.nil = false ∧ (g r).1 = b) with ⟨r, row, h1, h2, rfl⟩ | h'
      · obtain ⟨arr, h3, _⟩ := hs.obj r row h1 h2
        exact (Array.getElem?_eq_some_iff.1 h3).1
      · exact absurd ⟨h, fun r row h1 h2 h3 => h' ⟨r, row, h1, h2, h3⟩⟩ hb
  · rintro e w' ⟨v, x, rfl, h1, h2, h3, h4⟩
    refine hK g _ _ _ ⟨v, h1, h2, rfl⟩ ((hs.move h4).put o.dst (dok_spec hd) ?_) h4
    exact h3.mono Cells.rfl (fun b hb _ => Classical.not_not.1 hb) (fun r _ => rfl)
end
end Go.Proofs.YtkikceoccmoanaaGreatDoor
namespace Go.Proofs.YtkikceoccmoanaaGreatDoor
open Go.RowKit
theorem inf3 : Inf Tryz.prog 3 1 8 (Value.int IntKind.i64 0) := by unfold Inf; kernel_rfl
theorem inf5 : Inf Tryz.prog 5 1 1 (Value.int IntKind.u8 0) := by unfold Inf; kernel_rfl
theorem inf9 : Inf Tryz.prog 9 1 16 (Value.string ⟨#[]⟩) := by unfold Inf; kernel_rfl
theorem inf22 : Inf Tryz.prog 22 1 24 (Value.slice none 0 0) := by unfold Inf; kernel_rfl
theorem inf24 : Inf Tryz.prog 24 2 32 (.agg #[Value.int IntKind.i64 0, Value.slice none 0 0]) := by unfold Inf; kernel_rfl
theorem pl24 : Places Tryz.prog 24 [(0, 1), (1, 1)] := ⟨_, Tryz.underlying24, by kernel_rfl⟩
theorem inf40 : Inf Tryz.prog 40 1 24 (Value.slice none 0 0) := by unfold Inf; kernel_rfl
theorem inf42 : Inf Tryz.prog 42 2 32 (.agg #[Value.int IntKind.i64 0, Value.slice none 0 0]) := by unfold Inf; kernel_rfl
theorem pl42 : Places Tryz.prog 42 [(0, 1), (1, 1)] := ⟨_, Tryz.underlying42, by kernel_rfl⟩
theorem inf44 : Inf Tryz.prog 44 4 32 (.agg #[Value.int IntKind.i64 0, Value.int IntKind.i64 0, Value.int IntKind.i64 0, Value.int IntKind.i64 0]) := by unfold Inf; kernel_rfl
theorem pl44 : Places Tryz.prog 44 [(0, 1), (1, 1), (2, 1), (3, 1)] := ⟨_, Tryz.underlying44, by kernel_rfl⟩
theorem inf54 : Inf Tryz.prog 54 1 8 (Value.pointer none) := by unfold Inf; kernel_rfl
theorem inf55 : Inf Tryz.prog 55 1 24 (Value.slice none 0 0) := by unfold Inf; kernel_rfl
theorem inf57 : Inf Tryz.prog 57 2 32 (.agg #[Value.pointer none, Value.slice none 0 0]) := by unfold Inf; kernel_rfl
theorem inf59 : Inf Tryz.prog 59 2 32 (.agg #[Value.pointer none, Value.slice none 0 0]) := by unfold Inf; kernel_rfl
end Go.Proofs.YtkikceoccmoanaaGreatDoor
namespace Go.Proofs.YtkikceoccmoanaaGreatDoor
open Go.RowKit
set_option linter.unusedSimpArgs false
set_option linter.unusedVariables false

def arOk (n : Int) (a : Ar) : Bool := decide ((0 ≤ a.i ∧ a.i ≤ 1000) ∧ (0 ≤ a.o ∧ a.o ≤ 1000) ∧ (0 ≤ a.w ∧ a.w ≤ 1000000000) ∧ 0 ≤ a.t ∧ a.t < n)
theorem arOk_yes {n : Int} {a : Ar} (h : (0 ≤ a.i ∧ a.i ≤ 1000) ∧ (0 ≤ a.o ∧ a.o ≤ 1000) ∧ (0 ≤ a.w ∧ a.w ≤ 1000000000) ∧ 0 ≤ a.t ∧ a.t < n) : arOk n a = true := by simp only [arOk, h, decide_true, and_self]
theorem arOk_no {n : Int} {a : Ar} (h : ¬ ((0 ≤ a.i ∧ a.i ≤ 1000) ∧ (0 ≤ a.o ∧ a.o ≤ 1000) ∧ (0 ≤ a.w ∧ a.w ≤ 1000000000) ∧ 0 ≤ a.t ∧ a.t < n)) : arOk n a = false := by simp only [arOk, h, decide_false]
def finOk (x : Int) : Bool := decide (0 ≤ x ∧ x ≤ 1000000001)
def stOk (n : Int) (s : St) : Bool := finOk s.fin && s.arcs.all (arOk n)
def arcN (l : List St) : Nat := (l.map fun s => s.arcs.length).sum
def startOk (m : Mach) : Prop := -1 ≤ m.start ∧ m.start < m.states.length
instance (m : Mach) : Decidable (startOk m) := inferInstanceAs (Decidable (_ ∧ _))
/-- What is wrong with a machine: 1 a size, 2 a number out of range, 0 nothing. -/
def machE (m : Mach) : Int := if 60 < m.states.length ∨ 400 < arcN m.states then 1 else if startOk m ∧ m.states.all (stOk m.states.length) = true then 0 else 2

theorem arcN_snoc (l : List St) (s : St) : arcN (l ++ [s]) = arcN l + s.arcs.length := by simp [arcN]
theorem all_snoc' {α : Type} {xs : List α} {k : Nat} {x : α} {p : α → Bool} (hx : xs[k]? = some x) (h : (xs.take k).all p = true) (hp : p x = true) : (xs.take (k + 1)).all p = true := by
  rw [take_snoc hx, List.all_append, h]; simp [hp]
theorem all_not {α : Type} {xs : List α} {k : Nat} {x : α} {p : α → Bool} (hx : xs[k]? = some x) (hp : p x = false) : xs.all p = false := by
  rw [Bool.eq_false_iff]
  intro h
  have := List.all_eq_true.1 h x (List.mem_of_getElem? hx)
  rw [hp] at this
  exact absurd this (by simp)
theorem stOk_arc {n : Int} {s : St} {k : Nat} {a : Ar} (h : s.arcs[k]? = some a) (ha : arOk n a = false) : stOk n s = false := by
  simp only [stOk, all_not h ha, Bool.and_false]
theorem stOk_fin {n : Int} {s : St} (h : finOk s.fin = false) : stOk n s = false := by simp only [stOk, h, Bool.false_and]
theorem stOk_arcs {n : Int} {s : St} (h : s.arcs.all (arOk n) = false) : stOk n s = false := by simp only [stOk, h, Bool.and_false]
theorem stOk_yes {n : Int} {s : St} (h : finOk s.fin = true) (g : s.arcs.all (arOk n) = true) : stOk n s = true := by simp only [stOk, h, g, Bool.and_self]
theorem machE_size {st : Int} {sts : List St} (h : 60 < sts.length ∨ 400 < arcN sts) : machE ⟨st, sts⟩ = 1 := by unfold machE; rw [if_pos h]
theorem machE_start {st : Int} {sts : List St} {len : Nat} (hl : sts.length = len) (h1 : ¬ 60 < len) (h2 : ¬ 400 < arcN sts) (h3 : ¬ (-1 ≤ st ∧ st < len)) : machE ⟨st, sts⟩ = 2 := by
  subst hl
  unfold machE startOk
  rw [if_neg (by simp only; omega), if_neg (fun h => h3 h.1)]
theorem machE_state {st : Int} {sts : List St} {len k : Nat} {x : St} (hl : sts.length = len) (h1 : ¬ 60 < len) (h2 : ¬ 400 < arcN sts) (h3 : sts[k]? = some x) (h4 : stOk len x = false) : machE ⟨st, sts⟩ = 2 := by
  subst hl
  unfold machE
  rw [if_neg (by simp only; omega), if_neg (fun h => by have := h.2; simp only [all_not h3 h4] at this; exact absurd this (by simp))]
theorem machE_good {st : Int} {sts : List St} {len k : Nat} (hl : sts.length = len) (h1 : ¬ 60 < len) (h2 : ¬ 400 < arcN sts) (h3 : -1 ≤ st ∧ st < len) (hk : ¬ k < len) (h4 : (sts.take k).all (stOk len) = true) : machE ⟨st, sts⟩ = 0 := by
  subst hl
  rw [List.take_of_length_le (by omega)] at h4
  unfold machE startOk
  rw [if_neg (by simp only; omega), if_pos ⟨h3, h4⟩]
/-- A machine with which nothing is wrong. -/
theorem machE_zero {m : Mach} (h : machE m = 0) : m.states.length ≤ 60 ∧ arcN m.states ≤ 400 ∧ (-1 ≤ m.start ∧ m.start < m.states.length) ∧ ∀ s ∈ m.states, finOk s.fin = true ∧ ∀ a ∈ s.arcs, arOk m.states.length a = true := by
  unfold machE at h
  by_cases h1 : 60 < m.states.length ∨ 400 < arcN m.states
  · rw [if_pos h1] at h; exact absurd h (by decide)
  · rw [if_neg h1] at h
    by_cases h2 : startOk m ∧ m.states.all (stOk m.states.length) = true
    · refine ⟨by omega, by omega, h2.1, fun s hs => ?_⟩
      have h3 := List.all_eq_true.1 h2.2 s hs
      simp only [stOk, Bool.and_eq_true] at h3
      exact ⟨h3.1, fun a ha => List.all_eq_true.1 h3.2 a ha⟩
    · rw [if_neg h2] at h; exact absurd h (by decide)
theorem arcN_full {sts : List St} {len k : Nat} (hl : sts.length = len) (hk : ¬ k < len) : arcN (sts.take k) = arcN sts := by rw [List.take_of_length_le (by omega)]


abbrev arD (a : Ar) : List D := [.p (.int .i64 a.i), .p (.int .i64 a.o), .p (.int .i64 a.w), .p (.int .i64 a.t)]
abbrev arsD (l : List Ar) : D := .sl 4 32 (l.map arD)
abbrev stD (s : St) : List D := [.p (.int .i64 s.fin), arsD s.arcs]
abbrev stsD (l : List St) : D := .sl 2 32 (l.map stD)
abbrev mV (m : Mach) : V := .agg [.i m.start, .d (stsD m.states)]
abbrev intsD (l : List Int) : D := .sl 1 8 (l.map fun x => [D.p (.int .i64 x)])
theorem DRep.bound {w : World} {q : Nat → Prop} {sz bt : Nat} {rows : List (List D)} {v : Value} (h : DRep w q (.sl sz bt rows) v) : rows.length * bt ≤ 140737488355328 := by
  cases h with | sl _ _ _ _ _ _ _ _ _ _ hl => exact hl
theorem DRep.row {w : World} {q : Nat → Prop} {sz bt : Nat} {rows : List (List D)} {v : Value} (h : DRep w q (.sl sz bt rows) v) {i j : Nat} {row : List D} {u : D} (hi : rows[i]? = some row) (hj : row[j]? = some u) : ∃ y, DRep w q u y := by
  cases h with | sl _ _ _ _ _ _ _ _ _ _ hl hc hr => exact ⟨_, hr i j row u hi hj⟩
/-- No machine in memory is larger than memory. -/
theorem Fn.mach {P : Program} {f : FuncId} {args : List V} {post : V → Prop} (m : Mach) (j : Nat) (hj : args[j]? = some (mV m)) (h : m.states.length ≤ 4398046511104 → (∀ x ∈ m.states, x.arcs.length ≤ 4398046511104) → Fn P f args post) : Fn P f args post := by
  intro w out g xs ho hx
  have hlt : j < xs.length := by rw [← hx.1]; exact (List.getElem?_eq_some_iff.1 hj).1
  have hv := hx.2 j _ _ hj (List.getElem?_eq_getElem hlt)
  generalize xs[j] = y at hv
  cases hv with
  | agg _ cs hl hh =>
    have hc : 1 < cs.length := by simp at hl; omega
    have h1 := hh 1 _ cs[1] rfl (List.getElem?_eq_getElem hc)
    cases h1 with
    | d _ _ h2 =>
      have h3 := h2.bound
      simp only [List.length_map] at h3
      refine h (by omega) (fun x hx => ?_) w out g xs ho hx
      obtain ⟨i, hi⟩ := List.getElem?_of_mem hx
      obtain ⟨z, h4⟩ := h2.row (i := i) (j := 1) (row := stD x) (by simp [hi]) rfl
      have h5 := h4.bound
      simp only [List.length_map] at h5
      omega
/-- No slice in memory is larger than memory. -/
theorem Fn.sl {P : Program} {f : FuncId} {args : List V} {post : V → Prop} (j : Nat) {sz bt : Nat} {rows : List (List D)} (hj : args[j]? = some (.d (.sl sz bt rows))) (h : rows.length * bt ≤ 140737488355328 → Fn P f args post) : Fn P f args post := by
  intro w out g xs ho hx
  have hlt : j < xs.length := by rw [← hx.1]; exact (List.getElem?_eq_some_iff.1 hj).1
  have hv := hx.2 j _ _ hj (List.getElem?_eq_getElem hlt)
  generalize xs[j] = y at hv
  cases hv with
  | d _ _ h2 => exact h h2.bound w out g xs ho hx
theorem get_lt {α : Type} {l : List α} {k n : Nat} (hl : l.length = n) (h : k < n) : ∃ x, l[k]? = some x := ⟨l[k], List.getElem?_eq_getElem (by omega)⟩
end Go.Proofs.YtkikceoccmoanaaGreatDoor
namespace Go.Proofs.YtkikceoccmoanaaGreatDoor
open Go.RowKit
set_option linter.unusedSimpArgs false
set_option linter.unusedVariables false

section
variable {c : Cx} {Q : Exit → S → Prop} {s : S} {o : Oper}

open Classical in
/-- A loop whose invariant tells how far it still is. -/
theorem AW.loopN {x : Code} (I : Nat → S → Prop) (h0 : ∃ n s', Less s' s ∧ I n s')
    (round : ∀ n s, I n s → AW c x (thenS (fun s' => ∃ m s'', Less s'' s' ∧ I m s'' ∧ m < n) Q) s) : AW c (.loop x) Q s := by
  refine AW.loop (fun s => ∃ n, I n s) (fun s => if h : ∃ n, I n s then Classical.choose (least_nat h) else 0) ?_ ?_
  · obtain ⟨n, s', h1, h2⟩ := h0
    exact ⟨s', h1, n, h2⟩
  · intro s hs
    obtain ⟨hc1, hc2⟩ := Classical.choose_spec (least_nat hs)
    refine (round _ s hc1).mono fun e s' hq => ?_
    cases e
    case normal =>
      obtain ⟨m, s'', h1, h2, h3⟩ := hq
      refine ⟨s'', h1, ⟨m, h2⟩, ?_⟩
      have hs'' : ∃ n, I n s'' := ⟨m, h2⟩
      simp only [dif_pos hs, dif_pos hs'']
      have := (Classical.choose_spec (least_nat hs'')).2 m h2
      omega
    all_goals exact hq

theorem st_store_map2 {α : Type} {t : TypeId} {bt : Nat} {z : Value} {x y : Operand} {r k : Nat} {row : Row} {l : List α} {f : α → V} {v : α} (hi : Inf c.P t 1 bt z) (ho : o.op = .store t x y) (hd : o.dst = none) (hx : s.ev x = some (.ref r (k * 1))) (hr : fnd s.H r = some row) (hn : row.nil = false)
    (hf : row.cells = l.map f) (hy : s.ev y = some (f v)) (hok : (f v).one = true) (hfit : k < l.length) : Step c o s (fun s' => s' = { s with H := (r, { row with cells := (l.set k v).map f }) :: s.H }) := st_store_map hi ho hd hx hy hr hn hf hok hfit
/-- A call that is walked where it stands, in a drawn region, after which nothing else may be drawn. -/
theorem AD3.inline {L : List Oper} {need : Nat → Bool} {l' : List (Nat × Bool)} {i : Nat} (l : List Nat) {ts : List V} {fx : Operand} {xs : Array Operand} {tys : Array TypeId} {f : FuncId} {caps : List V} {fn : Func} {code : Code} {n : Nat} {rs : List ResultVar} {ars : List V} (hi : L[i]? = some o) (hg : o.guard = none) (hne : need i = false) (hts : l.map (fun i => fnd s.T i) = ts.map some) (hf : Is c.P f fn code n rs)
    (ho : o.op = .call { callee := .value fx, args := xs, argTypes := tys }) (hfx : s.ev fx = some (.fn f caps)) (hargs : xs.toList.map s.ev = ars.map some) (hn : ars.length + caps.length ≤ n) (hd : dok s o = true)
    (h : ∀ kx, AW ⟨c.P, c.w0, c.out, kx, []⟩ code (QI c.P rs s.n l o.dst (AD3 c L.toArray Q need l')) ⟨n, enum 0 (ars ++ caps), s.H, ts ++ s.K⟩) : AD3 c L.toArray Q need ((i, false) :: l') s :=
  AD3.step hi hg hne (st_inline l hts hf ho hfx hargs hn hd h)
end

/-- A result that says less. -/
inductive WkR : V → V → Prop
  | one {v' v : V} (h : Wk v' v) : WkR v' v
  | tup {l' l : List V} (hl : l'.length = l.length) (h : ∀ (j : Nat) (u v : V), l'[j]? = some u → l[j]? = some v → Wk u v) : WkR (.tup l') (.tup l)
theorem WkR.rep {w : World} {q : Nat → Prop} {g : Nat → Nat × Nat} {v' v : V} {x : Value} (h : WkR v' v) (hv : VRep w q g v x) : VRep w q g v' x := by
  cases h with
  | one h => exact h.rep hv
  | tup hl h =>
    cases hv with
    | tup _ cs hlen hh =>
      refine .tup _ cs (by omega) fun j u y hu hy => ?_
      have hj := (List.getElem?_eq_some_iff.1 hu).1
      rename_i l' l
      have hj' : j < l.length := by omega
      exact (h j u l[j] hu (List.getElem?_eq_getElem hj')).rep (hh j _ y (List.getElem?_eq_getElem hj') hy)
theorem Fn.eqi {P : Program} {f : FuncId} {args : List V} {x y : Int} (h : Fn P f args (fun v => v = .i x)) (e : x = y) : Fn P f args (fun v => v = .i y) := by subst e; exact h
theorem Fn.wkS {P : Program} {f : FuncId} {args : List V} {post post' : V → Prop} (h : Fn P f args post) (hp : ∀ v, post v → v.pure → ∃ v', post' v' ∧ v'.pure ∧ ∀ w q g x, VRep w q g v x → VRep w q g v' x) : Fn P f args post' := fun w out g xs h1 h2 =>
  (h w out g xs h1 h2).mono fun e w' ⟨v, x, h3, h4, h5, h6, h7⟩ => by
    obtain ⟨v', k1, k2, k3⟩ := hp v h4 h5
    exact ⟨v', x, h3, k1, k2, k3 _ _ _ _ h6, h7⟩
theorem rep_tup2 {u u' v : V} (h : ∀ w q g x, VRep w q g u x → VRep w q g u' x) : ∀ w q g x, VRep w q g (.tup [u, v]) x → VRep w q g (.tup [u', v]) x := by
  intro w q g x hx
  cases hx with
  | tup _ cs hl hh =>
    refine .tup _ cs hl fun j y z hy hz => ?_
    match j, hy with
    | 0, hy => simp at hy; subst hy; exact h _ _ _ _ (hh 0 u z rfl hz)
    | 1, hy => exact hh 1 y z hy hz
    | n + 2, hy => simp at hy
theorem rep_zeroM (n : Int) : ∀ w q g x, VRep w q g (.agg [.i n, .nil]) x → VRep w q g (.agg [.i n, .d (.sl 2 32 [])]) x := by
  intro w q g x hx
  cases hx with
  | agg _ cs hl hh =>
    refine .agg _ cs hl fun j y z hy hz => ?_
    match j, hy with
    | 0, hy => exact hh 0 y z hy hz
    | 1, hy => simp at hy; subst hy; exact (Wk.nil 2 32).rep (hh 1 .nil z rfl hz)
    | n + 2, hy => simp at hy
/-- Either an error with nothing, or the machine. -/
def resP (e : Int) (M : Mach) (v : V) : Prop := e ≠ 0 ∧ v = .tup [.agg [.i 0, .nil], .i e] ∨ e = 0 ∧ v = .tup [mV M, .i 0]
theorem resP_wk {e : Int} {M : Mach} (hM : e ≠ 0 → M = ⟨0, []⟩) (v : V) (h : resP e M v) (_ : v.pure) : ∃ v', v' = .tup [mV M, .i e] ∧ v'.pure ∧ ∀ w q g x, VRep w q g v x → VRep w q g v' x := by
  refine ⟨_, rfl, by simp [V.pure, V.has, V.hasL], ?_⟩
  rcases h with ⟨h0, rfl⟩ | ⟨h0, rfl⟩
  · rw [hM h0]
    exact rep_tup2 (rep_zeroM 0)
  · rw [h0]
    exact fun _ _ _ _ h => h
end Go.Proofs.YtkikceoccmoanaaGreatDoor
namespace Go.Proofs.YtkikceoccmoanaaGreatDoor
open Go.RowKit
set_option linter.unusedSimpArgs false
set_option linter.unusedVariables false

/-- A value told anew: new ids lead to old ones by ρ; what no longer lives may be told as plain data. -/
inductive Cv (s s' : S) (ρ : Nat → Nat) : V → V → Prop
  | d (x : D) : Cv s s' ρ (.d x) (.d x)
  | ad (row : List D) : Cv s s' ρ (.ad row) (.ad row)
  | ref (k o : Nat) : Cv s s' ρ (.ref k o) (.ref (ρ k) o)
  | own (k sz n : Nat) (f : Bool) : Cv s s' ρ (.own k sz n f) (.own (ρ k) sz n f)
  | nil (k sz : Nat) : Cv s s' ρ (.own k sz 0 true) .nil
  | nil2 (k k' sz : Nat) : Cv s s' ρ (.own k sz 0 true) (.own k' sz 0 true)
  | junk (v : V) : Cv s s' ρ .junk v
  | same (v : V) (h : ∀ r, v.has r = true → ρ r = r) : Cv s s' ρ v v
  | frz (r sz n bt : Nat) (f : Bool) (row : Row) (rows : List (List D)) (hr : fnd s.H r = some row) (hf : row.nil = f) (hlen : rows.length = n) (hn : n * bt ≤ 140737488355328)
      (hrows : ∀ (i j : Nat) (l : List D) (u : D), rows[i]? = some l → l[j]? = some u → row.cells[i * sz + j]? = some (.d u)) (hz : ∀ k row', fnd s'.H k = some row' → row'.nil = false → ρ k ≠ r) : Cv s s' ρ (.d (.sl sz bt rows)) (.own r sz n f)
  | agg (l' l : List V) (hl : l'.length = l.length) (h : ∀ (j : Nat) (u v : V), l'[j]? = some u → l[j]? = some v → Cv s s' ρ u v) : Cv s s' ρ (.agg l') (.agg l)
  | fn (f : FuncId) (l' l : List V) (hl : l'.length = l.length) (h : ∀ (j : Nat) (u v : V), l'[j]? = some u → l[j]? = some v → Cv s s' ρ u v) : Cv s s' ρ (.fn f l') (.fn f l)

section
variable {c : Cx} {s s' : S} {g : Nat → Nat × Nat} {a : Act} {w : World} {ρ : Nat → Nat}

theorem Sim.conv (h : Sim c g s a w) (ρ : Nat → Nat) (hn : s'.n = s.n)
    (hT : ∀ (i : Nat) (v' : V), fnd s'.T i = some v' → ∃ v, fnd s.T i = some v ∧ Cv s s' ρ v' v)
    (hH : ∀ (r : Nat) (row' : Row), fnd s'.H r = some row' → row'.nil = true ∧ row'.cells = [] ∨ row'.nil = false ∧ ∃ row, fnd s.H (ρ r) = some row ∧ row.nil = false ∧ row'.ty = row.ty ∧ row'.sz = row.sz ∧ ∀ (j : Nat) (v' : V), row'.cells[j]? = some v' → ∃ v, row.cells[j]? = some v ∧ Cv s s' ρ v' v)
    (hK : ∀ (j : Nat) (v' : V), s'.K[j]? = some v' → ∃ v, s.K[j]? = some v ∧ Cv s s' ρ v' v)
    (hinj : ∀ r r' row row', fnd s'.H r = some row → row.nil = false → fnd s'.H r' = some row' → row'.nil = false → ρ r = ρ r' → r = r') : Sim c (fun k => g (ρ k)) s' a w := by
  have hlive : ∀ r row', fnd s'.H r = some row' → row'.nil = false → ∃ row, fnd s.H (ρ r) = some row ∧ row.nil = false := by
    intro r row' hr hrn
    rcases hH r row' hr with ⟨h1, _⟩ | ⟨_, row, h1, h2, _⟩
    · rw [hrn] at h1; cases h1
    · exact ⟨row, h1, h2⟩
  have hq : ∀ b, qt c s.H g b → b < w.heap.size → qt c s'.H (fun k => g (ρ k)) b := fun b hb _ => ⟨hb.1, fun r row' hr hrn => by
    obtain ⟨row, h1, h2⟩ := hlive r row' hr hrn
    exact hb.2 (ρ r) row h1 h2⟩
  have hm : ∀ {v' v}, Cv s s' ρ v' v → ∀ {x}, VRep w (qt c s.H g) g v x → VRep w (qt c s'.H (fun k => g (ρ k))) (fun k => g (ρ k)) v' x := by
    intro v' v hc
    induction hc with
    | d x => intro y hy; cases hy with | d _ _ h1 => exact .d _ _ (h1.mono Cells.rfl hq)
    | ad row =>
      intro y hy
      cases hy with
      | ad _ b o f h1 h2 h3 => exact .ad _ b o f ⟨hq b h1.1 h1.2, h1.2⟩ h2 fun j u hu => (h3 j u hu).mono Cells.rfl hq
    | ref k o =>
      intro y hy
      cases hy with
      | ref => exact VRep.ref (g := fun k => g (ρ k)) k o
    | own k sz n f =>
      intro y hy
      cases hy with
      | own _ _ _ h1 h2 => exact VRep.own (g := fun k => g (ρ k)) k sz n h1 h2
      | ownNil => exact .ownNil k sz
    | nil k sz =>
      intro y hy
      rw [VRep.p_eq hy]
      exact .ownNil k sz
    | nil2 k k' sz =>
      intro y hy
      cases hy
      exact .ownNil k sz
    | junk v => intro y _; exact .junk _
    | same v hv => intro y hy; exact hy.mono Cells.rfl hq (fun r hr => by rw [hv r hr])
    | frz r sz n bt f row rows hr hf hlen hn hrows hz =>
      intro y hy
      refine .d _ _ ?_
      cases hy with
      | own _ _ _ hle hcap =>
        obtain ⟨arr, h3, _, h4⟩ := h.obj r row hr hf
        subst hlen
        have hob : ¬ c.out (g r).1 := fun ho => by
          have h5 := h.low _ ho
          have h6 := h.base r row hr hf
          omega
        refine .sl sz bt rows _ _ (g r).1 0 (fun i j => arr.getD (i * sz + j) undef) (by omega) (fun _ => ⟨rfl, ⟨hob, fun k row' hk hkn e => ?_⟩, (Array.getElem?_eq_some_iff.1 h3).1⟩) hn ?_ ?_
        · obtain ⟨row2, k1, k2⟩ := hlive k row' hk hkn
          exact hz k row' hk hkn (h.inj (ρ k) r _ _ k1 k2 hr hf e)
        · intro i j l u hi hj
          obtain ⟨y, h5, h6⟩ := h4 _ _ (hrows i j l u hi hj)
          rw [Nat.zero_add, cell_of_row w _ _ _ _ _ h3, h5]
          simp [Array.getD_eq_getD_getElem?, h5]
        · intro i j l u hi hj
          obtain ⟨y, h5, h6⟩ := h4 _ _ (hrows i j l u hi hj)
          cases h6 with
          | d _ _ h7 => simpa [Array.getD_eq_getD_getElem?, h5] using h7.mono Cells.rfl hq
      | ownNil =>
        have : rows = [] := by simpa using hlen
        subst this
        exact .sl sz bt [] none 0 0 0 (fun _ _ => undef) (Nat.le_refl 0) (fun h => absurd rfl h) (by simp) (by simp) (by simp)
    | agg l' l hl hh ih =>
      intro y hy
      cases hy with
      | agg _ cs hlen h2 =>
        refine .agg _ cs (by omega) fun j u z hu hz => ?_
        have hj : j < l.length := by rw [← hl]; exact (List.getElem?_eq_some_iff.1 hu).1
        exact ih j u l[j] hu (List.getElem?_eq_getElem hj) (h2 j _ z (List.getElem?_eq_getElem hj) hz)
    | fn f l' l hl hh ih =>
      intro y hy
      cases hy with
      | fn _ _ cs hlen h2 =>
        refine .fn _ _ cs (by omega) fun j u z hu hz => ?_
        have hj : j < l.length := by rw [← hl]; exact (List.getElem?_eq_some_iff.1 hu).1
        exact ih j u l[j] hu (List.getElem?_eq_getElem hj) (h2 j _ z (List.getElem?_eq_getElem hj) hz)
  refine ⟨by rw [hn]; exact h.size, h.defers, ?_, ?_, ?_, ?_, ?_, ?_, h.low, h.below⟩
  · intro i v' hv
    obtain ⟨v, h1, h2⟩ := hT i v' hv
    obtain ⟨x, h3, h4⟩ := h.tmp i v h1
    exact ⟨x, h3, hm h2 h4⟩
  · intro r row' hr hrn
    rcases hH r row' hr with ⟨_, h1⟩ | ⟨h1, _⟩
    · exact h1
    · rw [hrn] at h1; cases h1
  · intro r row' hr hrn
    rcases hH r row' hr with ⟨h1, _⟩ | ⟨_, row, h1, h2, h3, h4, h5⟩
    · rw [hrn] at h1; cases h1
    · obtain ⟨arr, h6, h7, h8⟩ := h.obj (ρ r) row h1 h2
      refine ⟨arr, by rw [h3]; exact h6, by rw [h4]; exact h7, fun j v' hv => ?_⟩
      obtain ⟨v, h9, h10⟩ := h5 j v' hv
      obtain ⟨x, h11, h12⟩ := h8 j v h9
      exact ⟨x, h11, hm h10 h12⟩
  · intro j v' x h1 h2
    obtain ⟨v, h3, h4⟩ := hK j v' h1
    exact hm h4 (h.keep j v x h3 h2)
  · intro r r' row1 row2 h1 n1 h2 n2 h3
    obtain ⟨r1, k1, m1⟩ := hlive r row1 h1 n1
    obtain ⟨r2, k2, m2⟩ := hlive r' row2 h2 n2
    exact hinj r r' _ _ h1 n1 h2 n2 (h.inj _ _ _ _ k1 m1 k2 m2 h3)
  · intro r row' h1 n1
    obtain ⟨r1, k1, m1⟩ := hlive r row' h1 n1
    exact h.base (ρ r) _ k1 m1
end

/-- A row of elements, each with plain cells ahead and a slice of its own behind. -/
structure Fam (β : Type) where
  ty : TypeId
  sz : Nat
  bt : Nat
  pre : β → List D
  it : β → List (List D)

section
variable {β : Type} (F : Fam β)
def Fam.row (x : β) : Row := ⟨F.ty, (F.it x).flatten.map V.d, (F.it x).isEmpty, F.sz⟩
def Fam.ownV (k : Nat) (x : β) : V := .own k F.sz (F.it x).length (F.it x).isEmpty
def Fam.cells : Nat → List β → List V
  | _, [] => []
  | k, x :: l => (F.pre x).map V.d ++ F.ownV k x :: Fam.cells (k + 1) l
def Fam.objs : Nat → List β → List (Nat × Row)
  | _, [] => []
  | k, x :: l => (k, F.row x) :: Fam.objs (k + 1) l
def Fam.data (x : β) : List D := F.pre x ++ [.sl F.sz F.bt (F.it x)]
variable {F}

theorem Fam.objs_get : ∀ (l : List β) (k p : Nat), fnd (F.objs k l) (k + p) = (l[p]?).map F.row
  | [], k, p => by simp [Fam.objs, fnd]
  | x :: l, k, 0 => by simp [Fam.objs, fnd]
  | x :: l, k, p + 1 => by
    have := Fam.objs_get l (k + 1) p
    simp only [Fam.objs, fnd]
    rw [if_neg (by simp), show k + (p + 1) = k + 1 + p by omega, this]
    simp
theorem Fam.objs_low : ∀ (l : List β) (k r : Nat), r < k → fnd (F.objs k l) r = none
  | [], k, r, h => by simp [Fam.objs, fnd]
  | x :: l, k, r, h => by
    simp only [Fam.objs, fnd]
    rw [if_neg (by simp; omega)]
    exact Fam.objs_low l (k + 1) r (by omega)
theorem Fam.objs_inv {l : List β} {k r : Nat} {row : Row} (h : fnd (F.objs k l) r = some row) : ∃ p x, r = k + p ∧ l[p]? = some x ∧ row = F.row x := by
  have hr : k ≤ r := by
    by_cases hh : r < k
    · rw [Fam.objs_low l k r hh] at h; cases h
    · omega
  obtain ⟨p, rfl⟩ : ∃ p, r = k + p := ⟨r - k, by omega⟩
  rw [Fam.objs_get] at h
  cases hx : l[p]? with
  | none => rw [hx] at h; cases h
  | some x => rw [hx] at h; simp at h; exact ⟨p, x, rfl, hx, h.symm⟩
theorem hasL_dmap (r : Nat) (l : List D) : V.hasL r (l.map V.d) = false := by simp [V.hasL_false, V.has]
theorem Fam.cells_hasL : ∀ (l : List β) (k r : Nat), r < k → V.hasL r (F.cells k l) = false
  | [], k, r, h => rfl
  | x :: l, k, r, h => by
    have hkr : (k == r) = false := by simp; omega
    simp only [Fam.cells, hasL_append, hasL_dmap, V.hasL, Fam.ownV, V.has, hkr, Bool.false_or]
    exact Fam.cells_hasL l (k + 1) r (by omega)
theorem Fam.row_hasL (x : β) (r : Nat) : V.hasL r (F.row x).cells = false := hasL_dmap _ _
theorem Fam.objs_clean : ∀ (l : List β) (k r : Nat), r < k → (F.objs k l).all (fun x => x.1 != r && !V.hasL r x.2.cells) = true
  | [], k, r, h => rfl
  | x :: l, k, r, h => by
    simp only [Fam.objs, List.all_cons, Fam.row_hasL, Bool.not_false, Bool.and_true]
    rw [Fam.objs_clean l (k + 1) r (by omega)]
    simp
    omega
theorem Fam.objs_filter : ∀ (l : List β) (k r : Nat), r < k → (F.objs k l).filter (fun x => x.1 != r) = F.objs k l
  | [], k, r, h => rfl
  | x :: l, k, r, h => by
    simp only [Fam.objs, List.filter_cons]
    rw [if_pos (by simp; omega), Fam.objs_filter l (k + 1) r (by omega)]
theorem Fam.objs_forget : ∀ (l : List β) (k r : Nat), (F.objs k l).map (fun x => (x.1, ({ x.2 with cells := if V.hasL r x.2.cells then x.2.cells.map (junkIf r) else x.2.cells } : Row))) = F.objs k l
  | [], k, r => rfl
  | x :: l, k, r => by
    simp only [Fam.objs, List.map_cons, Fam.row_hasL, Bool.false_eq_true, if_false]
    rw [Fam.objs_forget l (k + 1) r]
theorem Fam.cells_len {m : Nat} (hm : ∀ x, (F.pre x).length = m) : ∀ (l : List β) (k : Nat), (F.cells k l).length = l.length * (m + 1)
  | [], k => by simp [Fam.cells]
  | x :: l, k => by
    simp only [Fam.cells, List.length_append, List.length_map, List.length_cons, hm, Fam.cells_len hm l (k + 1)]
    rw [Nat.succ_mul]; omega
theorem Fam.cells_own {m : Nat} (hm : ∀ x, (F.pre x).length = m) : ∀ (l : List β) (k p : Nat) (x : β), l[p]? = some x → (F.cells k l)[p * (m + 1) + m]? = some (F.ownV (k + p) x)
  | [], k, p, x, h => by simp at h
  | y :: l, k, 0, x, h => by
    simp at h
    subst h
    simp only [Fam.cells, Nat.zero_mul, Nat.zero_add, Nat.add_zero]
    rw [List.getElem?_append_right (by simp [hm])]
    simp [hm]
  | y :: l, k, p + 1, x, h => by
    have := Fam.cells_own hm l (k + 1) p x (by simpa using h)
    simp only [Fam.cells]
    rw [List.getElem?_append_right (by simp [hm])]
    simp only [List.length_map, hm]
    rw [show (p + 1) * (m + 1) + m - m = (p * (m + 1) + m) + 1 by rw [Nat.succ_mul]; omega, List.getElem?_cons_succ, this, show k + 1 + p = k + (p + 1) by omega]
theorem Fam.cells_pre {m : Nat} (hm : ∀ x, (F.pre x).length = m) : ∀ (l : List β) (k p j : Nat) (x : β) (d : D), l[p]? = some x → (F.pre x)[j]? = some d → (F.cells k l)[p * (m + 1) + j]? = some (.d d)
  | [], k, p, j, x, d, h, hd => by simp at h
  | y :: l, k, 0, j, x, d, h, hd => by
    simp at h
    subst h
    have hj := (List.getElem?_eq_some_iff.1 hd).1
    simp only [Fam.cells, Nat.zero_mul, Nat.zero_add]
    rw [List.getElem?_append_left (by simpa using hj)]
    simp [hd]
  | y :: l, k, p + 1, j, x, d, h, hd => by
    have := Fam.cells_pre hm l (k + 1) p j x d (by simpa using h) hd
    simp only [Fam.cells]
    rw [List.getElem?_append_right (by simp [hm]; rw [Nat.succ_mul]; omega)]
    simp only [List.length_map, hm]
    rw [show (p + 1) * (m + 1) + j - m = (p * (m + 1) + j) + 1 by rw [Nat.succ_mul]; omega, List.getElem?_cons_succ, this]
theorem Fam.cells_app : ∀ (l : List β) (k : Nat) (x : β), F.cells k (l ++ [x]) = F.cells k l ++ ((F.pre x).map V.d ++ [F.ownV (k + l.length) x])
  | [], k, x => by simp [Fam.cells]
  | y :: l, k, x => by
    simp only [List.cons_append, Fam.cells, Fam.cells_app l (k + 1) x, List.length_cons, show k + 1 + l.length = k + (l.length + 1) by omega]
    simp
theorem Fam.cells_setown {m : Nat} (hm : ∀ x, (F.pre x).length = m) : ∀ (l : List β) (k p : Nat) (x x' : β) (u : V), l[p]? = some x → F.pre x' = F.pre x → (F.cells k (l.set p x')).set (p * (m + 1) + m) u = (F.cells k l).set (p * (m + 1) + m) u
  | [], k, p, x, x', u, h, hp => by simp at h
  | y :: l, k, 0, x, x', u, h, hp => by
    simp at h
    subst h
    simp only [List.set_cons_zero, Fam.cells, Nat.zero_mul, Nat.zero_add, hp]
    rw [List.set_append_right _ _ (by simp [hm]), List.set_append_right _ _ (by simp [hm])]
    simp [hm]
  | y :: l, k, p + 1, x, x', u, h, hp => by
    have := Fam.cells_setown hm l (k + 1) p x x' u (by simpa using h) hp
    simp only [List.set_cons_succ, Fam.cells]
    have e : (p + 1) * (m + 1) + m - m = (p * (m + 1) + m) + 1 := by rw [Nat.succ_mul]; omega
    have e2 : m ≤ (p + 1) * (m + 1) + m := by omega
    rw [List.set_append_right _ _ (by simp only [List.length_map, hm]; exact e2), List.set_append_right _ _ (by simp only [List.length_map, hm]; exact e2)]
    simp only [List.length_map, hm, e, List.set_cons_succ, this]
theorem Fam.cells_put {m : Nat} (hm : ∀ x, (F.pre x).length = m) {l : List β} {k p : Nat} {x : β} (h : l[p]? = some x) : ((F.cells k l).set (p * (m + 1) + m) .junk).set (p * (m + 1) + m) (F.ownV (k + p) x) = F.cells k l := by
  rw [List.set_set]
  have := Fam.cells_own hm l k p x h
  refine List.ext_getElem? fun i => ?_
  rw [List.getElem?_set]
  split
  · rename_i e
    subst e
    rw [if_pos (List.getElem?_eq_some_iff.1 this).1, this]
  · rfl
end
end Go.Proofs.YtkikceoccmoanaaGreatDoor
