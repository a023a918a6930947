/- Rules for rows that are told by a list of plain things, and for tests that are decided. -/
import Derived.Test.YthlcginebeapdaaAmF
namespace Go.Proofs.Ythlcginebeapdaa
open Go.RowKit
set_option linter.unusedSimpArgs false
set_option linter.unusedVariables false

section
variable {c : Cx} {s : S} {o : Oper} {α : Type}

theorem rp_b {b b' : Bool} (h : RP c o s (.b b)) (e : b = b') : RP c o s (.b b') := by subst e; exact h
theorem rp_eqlT {t t' : TypeId} {x y : Operand} {k : IntKind} {m n : Int} (ho : o.op = .binOp .eql t x y t') (hx : s.ev x = some (.d (.p (.int k m)))) (hy : s.ev y = some (.d (.p (.int k n)))) (h : m = n) : RP c o s (.b true) := rp_b (rp_eql ho hx hy) (by simp [h])
theorem rp_eqlF {t t' : TypeId} {x y : Operand} {k : IntKind} {m n : Int} (ho : o.op = .binOp .eql t x y t') (hx : s.ev x = some (.d (.p (.int k m)))) (hy : s.ev y = some (.d (.p (.int k n)))) (h : ¬ m = n) : RP c o s (.b false) := rp_b (rp_eql ho hx hy) (by simp [h])
theorem rp_neqT {t t' : TypeId} {x y : Operand} {k : IntKind} {m n : Int} (ho : o.op = .binOp .neq t x y t') (hx : s.ev x = some (.d (.p (.int k m)))) (hy : s.ev y = some (.d (.p (.int k n)))) (h : ¬ m = n) : RP c o s (.b true) := rp_b (rp_neq ho hx hy) (by simp [h])
theorem rp_neqF {t t' : TypeId} {x y : Operand} {k : IntKind} {m n : Int} (ho : o.op = .binOp .neq t x y t') (hx : s.ev x = some (.d (.p (.int k m)))) (hy : s.ev y = some (.d (.p (.int k n)))) (h : m = n) : RP c o s (.b false) := rp_b (rp_neq ho hx hy) (by simp [h])
theorem rp_lssT {t t' : TypeId} {x y : Operand} {k : IntKind} {m n : Int} (ho : o.op = .binOp .lss t x y t') (hx : s.ev x = some (.d (.p (.int k m)))) (hy : s.ev y = some (.d (.p (.int k n)))) (h : m < n) : RP c o s (.b true) := rp_b (rp_lss ho hx hy) (by simp [h])
theorem rp_lssF {t t' : TypeId} {x y : Operand} {k : IntKind} {m n : Int} (ho : o.op = .binOp .lss t x y t') (hx : s.ev x = some (.d (.p (.int k m)))) (hy : s.ev y = some (.d (.p (.int k n)))) (h : ¬ m < n) : RP c o s (.b false) := rp_b (rp_lss ho hx hy) (by simpa using h)
theorem rp_leqT {t t' : TypeId} {x y : Operand} {k : IntKind} {m n : Int} (ho : o.op = .binOp .leq t x y t') (hx : s.ev x = some (.d (.p (.int k m)))) (hy : s.ev y = some (.d (.p (.int k n)))) (h : m ≤ n) : RP c o s (.b true) := rp_b (rp_leq ho hx hy) (by simp [h])
theorem rp_leqF {t t' : TypeId} {x y : Operand} {k : IntKind} {m n : Int} (ho : o.op = .binOp .leq t x y t') (hx : s.ev x = some (.d (.p (.int k m)))) (hy : s.ev y = some (.d (.p (.int k n)))) (h : ¬ m ≤ n) : RP c o s (.b false) := rp_b (rp_leq ho hx hy) (by simpa using h)
theorem rp_gtrT {t t' : TypeId} {x y : Operand} {k : IntKind} {m n : Int} (ho : o.op = .binOp .gtr t x y t') (hx : s.ev x = some (.d (.p (.int k m)))) (hy : s.ev y = some (.d (.p (.int k n)))) (h : n < m) : RP c o s (.b true) := rp_b (rp_gtr ho hx hy) (by simp [h])
theorem rp_gtrF {t t' : TypeId} {x y : Operand} {k : IntKind} {m n : Int} (ho : o.op = .binOp .gtr t x y t') (hx : s.ev x = some (.d (.p (.int k m)))) (hy : s.ev y = some (.d (.p (.int k n)))) (h : ¬ n < m) : RP c o s (.b false) := rp_b (rp_gtr ho hx hy) (by simpa using h)
theorem rp_geqT {t t' : TypeId} {x y : Operand} {k : IntKind} {m n : Int} (ho : o.op = .binOp .geq t x y t') (hx : s.ev x = some (.d (.p (.int k m)))) (hy : s.ev y = some (.d (.p (.int k n)))) (h : n ≤ m) : RP c o s (.b true) := rp_b (rp_geq ho hx hy) (by simp [h])
theorem rp_geqF {t t' : TypeId} {x y : Operand} {k : IntKind} {m n : Int} (ho : o.op = .binOp .geq t x y t') (hx : s.ev x = some (.d (.p (.int k m)))) (hy : s.ev y = some (.d (.p (.int k n)))) (h : ¬ n ≤ m) : RP c o s (.b false) := rp_b (rp_geq ho hx hy) (by simpa using h)

theorem Fn.decT {P : Program} {f : FuncId} {args : List V} {p : Prop} [Decidable p] (h : Fn P f args (fun v => v = .b (decide p))) (hp : p) : Fn P f args (fun v => v = .b true) := h.mono fun v hv => by rw [hv, decide_eq_true hp]
theorem Fn.decF {P : Program} {f : FuncId} {args : List V} {p : Prop} [Decidable p] (h : Fn P f args (fun v => v = .b (decide p))) (hp : ¬ p) : Fn P f args (fun v => v = .b false) := h.mono fun v hv => by rw [hv, decide_eq_false hp]
theorem AW.condT {Q : Exit → S → Prop} {x : Operand} {t e : Code} (hc : s.ev x = some (.b true)) (h : AW c t Q s) : AW c (.cond x t e) Q s := AW.cond hc (fun _ => h) (fun h' => by cases h')
theorem AW.condF {Q : Exit → S → Prop} {x : Operand} {t e : Code} (hc : s.ev x = some (.b false)) (h : AW c e Q s) : AW c (.cond x t e) Q s := AW.cond hc (fun h' => by cases h') (fun _ => h)

/-- An element of a slice that is told by a list. -/
theorem rp_index_map {t e : TypeId} {x i : Operand} {sz bt bt' k : Nat} {z : Value} {l : List α} {f : α → List D} {y : α} {n' : Int} {kd : IntKind} (hu : c.P.underlying t = some (.slice e)) (hi : Inf c.P e sz bt z) (ho : o.op = .indexAddr t x i) (hx : s.ev x = some (.d (.sl sz bt' (l.map f)))) (hy : s.ev i = some (.d (.p (.int kd n'))))
    (hk : n' = (k : Int)) (hl : l[k]? = some y) : RP c o s (.ad (f y)) := rd_index_sl hu hi ho hx hy hk (by simp [hl])
theorem rp_len_map {t e : TypeId} {x : Operand} {sz bt' n : Nat} {l : List α} {f : α → List D} (hu : c.P.underlying t = some (.slice e)) (ho : o.op = .call { callee := .builtin .len, args := #[x], argTypes := #[t] }) (hx : s.ev x = some (.d (.sl sz bt' (l.map f)))) (hl : l.length = n) : RP c o s (.i (n : Int)) := by
  have := rp_len_sl hu ho hx
  rwa [List.length_map, hl] at this
/-- A cell of an object that is told by a list. -/
theorem rd_load_map {t : TypeId} {d : TypeDesc} {x : Operand} {r k : Nat} {row : Row} {l : List α} {f : α → V} {y : α} (hu : c.P.underlying t = some d) (hd : isAggD d = false) (ho : o.op = .load t x) (hx : s.ev x = some (.ref r (k * 1))) (hr : fnd s.H r = some row) (hn : row.nil = false) (hf : row.cells = l.map f) (hl : l[k]? = some y) : RD c o s (f y) :=
  rd_load_ref hu hd ho hx hr hn (by rw [hf]; simp [hl])
theorem st_store_map {t : TypeId} {bt : Nat} {z : Value} {x y : Operand} {r k : Nat} {row : Row} {l : List α} {f : α → V} {v : α} (hi : Inf c.P t 1 bt z) (ho : o.op = .store t x y) (hd : o.dst = none) (hx : s.ev x = some (.ref r (k * 1))) (hy : s.ev y = some (f v)) (hr : fnd s.H r = some row) (hn : row.nil = false)
    (hf : row.cells = l.map f) (hok : (f v).one = true) (hfit : k < l.length) : Step c o s (fun s' => s' = { s with H := (r, { row with cells := (l.set k v).map f }) :: s.H }) :=
  st_store hi ho hd hx hy hr hn hok (by rw [hf]; simpa using hfit) (by rw [hf, List.map_set, Nat.mul_one])
/-- make, told by a list. -/
theorem sm_make_map (r : Nat) {t e : TypeId} {bt n : Nat} {z : Value} {x : Operand} {n' : Int} (f : α → V) (z' : α) (hu : c.P.underlying t = some (.slice e)) (hi : Inf c.P e 1 bt z) (hz : z.oneCell' = true) (hzf : V.d (.p z) = f z') (ho : o.op = .makeSlice t x x) (hx : s.ev x = some (.i n')) (hn : n' = (n : Int)) (hb : n ≤ 1000000) (hbt : bt ≤ 64) (hr : s.clean r = true) (hd : dok s o = true) :
    StepM c o s (fun s' => s' = s.newObj r ⟨e, (List.replicate n z').map f, false, 1⟩ o.dst (.own r 1 n false)) := by
  rw [List.map_replicate, ← hzf]
  exact sm_make1 r hu hi hz ho hx hn hb hbt hr hd

theorem AW.bound {Q : Exit → S → Prop} {code : Code} (x : Operand) {sz bt : Nat} {rows : List (List D)} (hx : s.ev x = some (.d (.sl sz bt rows))) (h : rows.length * bt ≤ 140737488355328 → AW c code Q s) : AW c code Q s := fun g a w hs => by
  have hv := hs.ev hx
  generalize a.eval x = y at hv
  cases hv with
  | d _ _ hd =>
    cases hd with
    | sl _ _ _ _ _ _ _ _ _ _ hl => exact h hl g a w hs
theorem Wk.eq {v u : V} (h : v = u) : Wk v u := by subst h; exact .refl _
def LT (s : S) : List (Nat × V) → Prop
  | [] => True
  | (i, v) :: r => (∃ u, fnd s.T i = some u ∧ Wk v u) ∧ LT s r
def LH (s : S) : List (Nat × Row) → Prop
  | [] => True
  | (i, row) :: r => fnd s.H i = some row ∧ LH s r
theorem LT.get {s : S} : ∀ {l : List (Nat × V)}, LT s l → ∀ (i : Nat) (v : V), fnd l i = some v → ∃ u, fnd s.T i = some u ∧ Wk v u
  | [], _, i, v, h => by simp [fnd] at h
  | (k, u) :: r, hl, i, v, h => by
    simp only [fnd] at h
    split at h
    · rename_i e
      simp only [beq_iff_eq] at e
      subst e
      simp only [Option.some.injEq] at h
      subst h
      exact hl.1
    · exact LT.get hl.2 i v h
theorem LH.get {s : S} : ∀ {l : List (Nat × Row)}, LH s l → ∀ (i : Nat) (v : Row), fnd l i = some v → fnd s.H i = some v
  | [], _, i, v, h => by simp [fnd] at h
  | (k, u) :: r, hl, i, v, h => by
    simp only [fnd] at h
    split at h
    · rename_i e
      simp only [beq_iff_eq] at e
      subst e
      simp only [Option.some.injEq] at h
      subst h
      exact hl.1
    · exact LH.get hl.2 i v h
theorem Less.of {s' s : S} (hn : s'.n = s.n) (hT : LT s s'.T) (hH : LH s s'.H) (hK : s'.K = s.K) : Less s' s :=
  ⟨hn, fun i v h => hT.get i v h, fun r row h => ⟨row, hH.get r row h, rfl, rfl, rfl, fun j v hv => ⟨v, hv, .refl _⟩⟩, fun j v h => ⟨v, by rw [← hK]; exact h, .refl _⟩⟩
/-- The number in a temporary. -/
def S.nat (s : S) (t : Nat) : Nat :=
  match fnd s.T t with
  | some (.d (.p (.int _ n))) => n.toNat
  | _ => 0
@[simp] theorem hasL_d (r : Nat) (l : List α) (f : α → D) : V.hasL r (l.map (fun x => V.d (f x))) = false := by simp [V.hasL_false, V.has]
@[simp] theorem hasL_i (r : Nat) (l : List Int) : V.hasL r (l.map V.i) = false := by simp [V.hasL_false, V.has]
@[simp] theorem hasL_b (r : Nat) (l : List Bool) : V.hasL r (l.map V.b) = false := by simp [V.hasL_false, V.has]
@[simp] theorem hasL_s (r : Nat) (l : List ByteArray) : V.hasL r (l.map V.s) = false := by simp [V.hasL_false, V.has]
abbrev V.n (x : Nat) : V := V.i (x : Int)
@[simp] theorem hasL_n (r : Nat) (l : List Nat) : V.hasL r (l.map V.n) = false := by simp [V.hasL_false, V.has]
@[simp] theorem hasL_rep (r n : Nat) (x : D) : V.hasL r (List.replicate n (V.d x)) = false := by simp [V.hasL_false, V.has]
theorem AL.sm {Q : Exit → S → Prop} {ops : Array Oper} {rest : List Oper} {X : S} (hg : o.guard = none) (h : StepM c o s (fun s' => s' = X)) (hN : AL c ops rest Q X) : AL c ops (o :: rest) Q s :=
  AL.stepM hg fun g a w hs K Q' hK => h g a w hs K Q' fun g' s' a' w' e h1 h2 => hK g' s' a' w' (by subst e; exact hN) h1 h2
theorem AL.st {Q : Exit → S → Prop} {ops : Array Oper} {rest : List Oper} {X : S} (hg : o.guard = none) (h : Step c o s (fun s' => s' = X)) (hN : AL c ops rest Q X) : AL c ops (o :: rest) Q s :=
  AL.step hg fun g a w hs K Q' hK => h g a w hs K Q' fun g' s' a' w' e h1 => hK g' s' a' w' (by subst e; exact hN) h1
theorem AL.call {Q : Exit → S → Prop} {ops : Array Oper} {rest : List Oper} {post : V → Prop} (hg : o.guard = none) (h : StepM c o s (fun s' => ∃ v, post v ∧ v.pure ∧ s' = s.put o.dst v)) (hN : ∀ v, post v → v.pure → AL c ops rest Q (s.put o.dst v)) : AL c ops (o :: rest) Q s :=
  AL.stepM hg fun g a w hs K Q' hK => h g a w hs K Q' fun g' s' a' w' ⟨v, h1, h2, e⟩ h3 h4 => hK g' s' a' w' (by subst e; exact hN v h1 h2) h3 h4
theorem AL.cally {Q : Exit → S → Prop} {ops : Array Oper} {rest : List Oper} {post : V → Prop} {j : Nat} {b : Bool} (hg : o.guard = some (j, b)) (hy : yld ops s j = some b) (h : StepM c o s (fun s' => ∃ v, post v ∧ v.pure ∧ s' = s.put o.dst v)) (hN : ∀ v, post v → v.pure → AL c ops rest Q (s.put o.dst v)) : AL c ops (o :: rest) Q s :=
  AL.yes hg hy fun g a w hs K Q' hK => h g a w hs K Q' fun g' s' a' w' ⟨v, h1, h2, e⟩ h3 h4 => hK g' s' a' w' (by subst e; exact hN v h1 h2) h3
theorem AL.rdy {Q : Exit → S → Prop} {ops : Array Oper} {rest : List Oper} {v : V} {j : Nat} {b : Bool} (hg : o.guard = some (j, b)) (hy : yld ops s j = some b) (hd : dok s o = true) (h : RD c o s v) (hN : AL c ops rest Q (s.put o.dst v)) : AL c ops (o :: rest) Q s :=
  AL.yes hg hy (h.stepM hd hN).step
theorem AL.rpy {Q : Exit → S → Prop} {ops : Array Oper} {rest : List Oper} {v : V} {j : Nat} {b : Bool} (hg : o.guard = some (j, b)) (hy : yld ops s j = some b) (hd : dok s o = true) (h : RP c o s v) (hN : AL c ops rest Q (s.put o.dst v)) : AL c ops (o :: rest) Q s :=
  AL.rdy hg hy hd h.rd hN

/-- A nil slice becomes one that may grow. -/
theorem AW.adopt {Q : Exit → S → Prop} {code : Code} (t r sz : Nat) (ty : TypeId) (ht : fnd s.T t = some .nil) (hr : s.clean r = true) (h : AW c code Q ⟨s.n, (t, .own r sz 0 true) :: s.T, (r, ⟨ty, [], true, sz⟩) :: s.H, s.K⟩) : AW c code Q s := by
  intro g a w hs
  refine h g a w ?_
  have hq : ∀ b, qt c s.H g b → b < w.heap.size → qt c ((r, (⟨ty, [], true, sz⟩ : Row)) :: s.H) g b := by
    intro b hb _
    refine ⟨hb.1, fun k row hk hn => ?_⟩
    simp only [fnd] at hk
    split at hk
    · simp only [Option.some.injEq] at hk; subst hk; cases hn
    · exact hb.2 k row hk hn
  have hm : ∀ {v x}, VRep w (qt c s.H g) g v x → VRep w (qt c ((r, (⟨ty, [], true, sz⟩ : Row)) :: s.H) g) g v x := fun hv => hv.mono Cells.rfl hq (fun _ _ => rfl)
  have hfn : ∀ k row, fnd ((r, (⟨ty, [], true, sz⟩ : Row)) :: s.H) k = some row → row.nil = false → fnd s.H k = some row := by
    intro k row hk hn
    simp only [fnd] at hk
    split at hk
    · simp only [Option.some.injEq] at hk; subst hk; cases hn
    · exact hk
  refine ⟨hs.size, hs.defers, ?_, ?_, ?_, ?_, ?_, ?_, hs.low, hs.below⟩
  · intro i v hv
    simp only [fnd] at hv
    split at hv
    · rename_i e
      simp only [beq_iff_eq] at e
      subst e
      simp only [Option.some.injEq] at hv
      subst hv
      obtain ⟨x, h1, h2⟩ := hs.tmp _ _ ht
      refine ⟨x, h1, ?_⟩
      rw [VRep.p_eq h2]
      exact .ownNil r sz
    · obtain ⟨x, h1, h2⟩ := hs.tmp i v hv
      exact ⟨x, h1, hm h2⟩
  · intro k row hk hn
    simp only [fnd] at hk
    split at hk
    · simp only [Option.some.injEq] at hk; subst hk; rfl
    · exact hs.nul k row hk hn
  · intro k row hk hn
    obtain ⟨arr, h1, h2, h3⟩ := hs.obj k row (hfn k row hk hn) hn
    refine ⟨arr, h1, h2, fun j v hv => ?_⟩
    obtain ⟨x, h4, h5⟩ := h3 j v hv
    exact ⟨x, h4, hm h5⟩
  · intro j v x h1 h2
    exact hm (hs.keep j v x h1 h2)
  · intro k k' row row' h1 n1 h2 n2 h3
    exact hs.inj k k' row row' (hfn k row h1 n1) n1 (hfn k' row' h2 n2) n2 h3
  · intro k row h1 n1
    exact hs.base k row (hfn k row h1 n1) n1
/-- A slice of the call's own becomes plain data. -/
theorem Sim.freeze {g : Nat → Nat × Nat} {a : Act} {w : World} (hs : Sim c g s a w) {t r sz bt n : Nat} {f : Bool} {row : Row} {rows : List (List D)} (ht : fnd s.T t = some (.own r sz n f)) (hr : fnd s.H r = some row) (hf : row.nil = f) (hlen : rows.length = n) (hn : n * bt ≤ 140737488355328)
    (hrows : ∀ (i j : Nat) (l : List D) (u : D), rows[i]? = some l → l[j]? = some u → row.cells[i * sz + j]? = some (.d u)) : Sim c g ⟨s.n, (t, .d (.sl sz bt rows)) :: s.T, s.H.filter (fun x => x.1 != r), s.K⟩ a w := by
  have hfn : ∀ k row', fnd (s.H.filter (fun x => x.1 != r)) k = some row' → k ≠ r ∧ fnd s.H k = some row' := by
    intro k row' hk
    have e : k ≠ r := by rintro rfl; rw [fnd_filter_self] at hk; cases hk
    rw [fnd_filter r _ _ e] at hk
    exact ⟨e, hk⟩
  have hq : ∀ b, qt c s.H g b → b < w.heap.size → qt c (s.H.filter (fun x => x.1 != r)) g b := fun b hb _ => ⟨hb.1, fun k row' hk hn => hb.2 k row' (hfn k row' hk).2 hn⟩
  have hm : ∀ {v x}, VRep w (qt c s.H g) g v x → VRep w (qt c (s.H.filter (fun x => x.1 != r)) g) g v x := fun hv => hv.mono Cells.rfl hq (fun _ _ => rfl)
  refine ⟨hs.size, hs.defers, ?_, ?_, ?_, ?_, ?_, ?_, hs.low, hs.below⟩
  · intro i v hv
    simp only [fnd] at hv
    split at hv
    · rename_i e
      simp only [beq_iff_eq] at e
      subst e
      simp only [Option.some.injEq] at hv
      subst hv
      obtain ⟨x, h1, h2⟩ := hs.tmp _ _ ht
      refine ⟨x, h1, .d _ _ ?_⟩
      cases h2 with
      | own _ _ _ hle hcap =>
        obtain ⟨arr, h3, _, h4⟩ := hs.obj r row hr hf
        subst hlen
        have hob : ¬ c.out (g r).1 := fun h => by
          have h5 := hs.low _ h
          have h6 := hs.base r row hr hf
          omega
        refine .sl sz bt rows _ _ (g r).1 0 (fun i j => arr.getD (i * sz + j) undef) (by omega) (fun _ => ⟨rfl, ⟨hob, fun k row' hk hkn e => ?_⟩, (Array.getElem?_eq_some_iff.1 h3).1⟩) hn ?_ ?_
        · obtain ⟨k1, k2⟩ := hfn k row' hk
          exact k1 (hs.inj k r _ _ k2 hkn hr hf e)
        · intro i j l u hi hj
          obtain ⟨y, h5, h6⟩ := h4 _ _ (hrows i j l u hi hj)
          rw [Nat.zero_add, cell_of_row w _ _ _ _ _ h3, h5]
          simp [Array.getD_eq_getD_getElem?, h5]
        · intro i j l u hi hj
          obtain ⟨y, h5, h6⟩ := h4 _ _ (hrows i j l u hi hj)
          cases hm h6 with
          | d _ _ h7 => simpa [Array.getD_eq_getD_getElem?, h5] using h7
      | ownNil =>
        have : rows = [] := by simpa using hlen
        subst this
        exact .sl sz bt [] none 0 0 0 (fun _ _ => undef) (Nat.le_refl 0) (fun h => absurd rfl h) (by simp) (by simp) (by simp)
    · obtain ⟨x, h1, h2⟩ := hs.tmp i v hv
      exact ⟨x, h1, hm h2⟩
  · intro k row' hk hn
    exact hs.nul k row' (hfn k row' hk).2 hn
  · intro k row' hk hn
    obtain ⟨arr, h1, h2, h3⟩ := hs.obj k row' (hfn k row' hk).2 hn
    refine ⟨arr, h1, h2, fun j v hv => ?_⟩
    obtain ⟨x, h4, h5⟩ := h3 j v hv
    exact ⟨x, h4, hm h5⟩
  · intro j v x h1 h2
    exact hm (hs.keep j v x h1 h2)
  · intro k k' row row' h1 n1 h2 n2 h3
    exact hs.inj k k' row row' (hfn k row h1).2 n1 (hfn k' row' h2).2 n2 h3
  · intro k row h1 n1
    exact hs.base k row (hfn k row h1).2 n1
theorem AW.freeze {Q : Exit → S → Prop} {code : Code} (t bt : Nat) {r sz n : Nat} {f : Bool} {row : Row} (rows : List (List D)) (ht : fnd s.T t = some (.own r sz n f)) (hr : fnd s.H r = some row) (hf : row.nil = f) (hlen : rows.length = n) (hn : n * bt ≤ 140737488355328)
    (hrows : ∀ (i j : Nat) (l : List D) (u : D), rows[i]? = some l → l[j]? = some u → row.cells[i * sz + j]? = some (.d u)) (h : AW c code Q ⟨s.n, (t, .d (.sl sz bt rows)) :: s.T, s.H.filter (fun x => x.1 != r), s.K⟩) : AW c code Q s :=
  fun g a w hs => h g a w (hs.freeze ht hr hf hlen hn hrows)
theorem AL.freeze {Q : Exit → S → Prop} {ops : Array Oper} {l' : List Oper} (t bt : Nat) {r sz n : Nat} {f : Bool} {row : Row} (rows : List (List D)) (ht : fnd s.T t = some (.own r sz n f)) (hr : fnd s.H r = some row) (hf : row.nil = f) (hlen : rows.length = n) (hn : n * bt ≤ 140737488355328)
    (hrows : ∀ (i j : Nat) (l : List D) (u : D), rows[i]? = some l → l[j]? = some u → row.cells[i * sz + j]? = some (.d u)) (h : AL c ops l' Q ⟨s.n, (t, .d (.sl sz bt rows)) :: s.T, s.H.filter (fun x => x.1 != r), s.K⟩) : AL c ops l' Q s :=
  fun g a w hs => h g a w (hs.freeze ht hr hf hlen hn hrows)
theorem rows1 {l : List α} {f : α → D} {cells : List V} (h : cells = l.map (fun x => V.d (f x))) : ∀ (i j : Nat) (l' : List D) (u : D), (l.map (fun x => [f x]))[i]? = some l' → l'[j]? = some u → cells[i * 1 + j]? = some (.d u) := by
  intro i j l' u h1 h2
  rw [List.getElem?_map] at h1
  cases h3 : l[i]? with
  | none => rw [h3] at h1; cases h1
  | some x =>
    rw [h3] at h1
    simp only [Option.map_some, Option.some.injEq] at h1
    subst h1
    match j, h2 with
    | 0, h2 =>
      simp only [List.getElem?_cons_zero, Option.some.injEq] at h2
      subst h2 h
      simp [h3]
    | n + 1, h2 => simp at h2
end
end Go.Proofs.Ythlcginebeapdaa
