/- More rules of the walk without worlds: comparisons of bools, strings and structs; copies of slices; slices in fields. -/
import Derived.Test.YthlcginebeapdaaAmR
namespace Go.Proofs.Ythlcginebeapdaa
open Go.RowKit
set_option linter.unusedSimpArgs false
set_option linter.unusedVariables false

def D.one : D → Bool
  | .p x => x.oneCell'
  | .sl _ _ _ => true
  | .mp _ => true
  | .mm _ => true
theorem DRep.one {w : World} {q : Nat → Prop} {u : D} {x : Value} (h : DRep w q u x) (ho : u.one = true) : x.oneCell' = true := by
  cases h with
  | p => exact ho
  | sl => rfl
  | mp => rfl
  | mm => rfl

section
variable {c : Cx} {s : S} {o : Oper} {α : Type}

theorem run_equal_bool {P : Program} {t : TypeId} (hu : P.underlying t = some .bool) (a b : Bool) (w : World) : (Op.equal t (.bool a) (.bool b)).run P w = .ok (a == b) w := by
  have h : ∀ d : Nat, (Op.equalIn (d + 1) t (.bool a) (.bool b)).run P w = .ok (a == b) w := fun d => by simp [Op.equalIn, run_underlying hu]
  exact h 9999
theorem rp_eqlb {t t' : TypeId} {x y : Operand} {a b : Bool} (hu : c.P.underlying t = some .bool) (ho : o.op = .binOp .eql t x y t') (hx : s.ev x = some (.b a)) (hy : s.ev y = some (.b b)) : RP c o s (.b (a == b)) :=
  rp_bin ho hx hy fun w => by
    have h := run_equal_bool hu a b w
    have h2 : (binOp .eql t (.bool a) (.bool b)).run c.P w = .ok (.bool (a == b)) w := by simp only [binOp]; simp [h]
    have h3 : (eqGuard .eql t x y (.bool a) (.bool b)).run c.P w = .ok () w := by simp [eqGuard]
    simp only [Sem.run_bind, h3, Result.andThen_ok, h2]
theorem rp_neqb {t t' : TypeId} {x y : Operand} {a b : Bool} (hu : c.P.underlying t = some .bool) (ho : o.op = .binOp .neq t x y t') (hx : s.ev x = some (.b a)) (hy : s.ev y = some (.b b)) : RP c o s (.b (!(a == b))) :=
  rp_bin ho hx hy fun w => by
    have h := run_equal_bool hu a b w
    have h2 : (binOp .neq t (.bool a) (.bool b)).run c.P w = .ok (.bool !(a == b)) w := by simp only [binOp]; simp [h]
    have h3 : (eqGuard .neq t x y (.bool a) (.bool b)).run c.P w = .ok () w := by simp [eqGuard]
    simp only [Sem.run_bind, h3, Result.andThen_ok, h2]
theorem rp_neqbF {t t' : TypeId} {x y : Operand} {a b : Bool} (hu : c.P.underlying t = some .bool) (ho : o.op = .binOp .neq t x y t') (hx : s.ev x = some (.b a)) (hy : s.ev y = some (.b b)) (h : a = b) : RP c o s (.b false) := rp_b (rp_neqb hu ho hx hy) (by simp [h])
theorem rp_neqbT {t t' : TypeId} {x y : Operand} {a b : Bool} (hu : c.P.underlying t = some .bool) (ho : o.op = .binOp .neq t x y t') (hx : s.ev x = some (.b a)) (hy : s.ev y = some (.b b)) (h : a ≠ b) : RP c o s (.b true) := rp_b (rp_neqb hu ho hx hy) (by simp [h])
theorem rp_eqls {t t' : TypeId} {x y : Operand} {a b : ByteArray} (ho : o.op = .binOp .eql t x y t') (hx : s.ev x = some (.s a)) (hy : s.ev y = some (.s b)) : RP c o s (.b (a.toList == b.toList)) :=
  rp_bin ho hx hy fun w => by simp [eqGuard, binOp, Op.stringOp]
theorem rp_neqs {t t' : TypeId} {x y : Operand} {a b : ByteArray} (ho : o.op = .binOp .neq t x y t') (hx : s.ev x = some (.s a)) (hy : s.ev y = some (.s b)) : RP c o s (.b (!(a.toList == b.toList))) :=
  rp_bin ho hx hy fun w => by simp [eqGuard, binOp, Op.stringOp]
theorem rp_eqlsT {t t' : TypeId} {x y : Operand} {a b : ByteArray} (ho : o.op = .binOp .eql t x y t') (hx : s.ev x = some (.s a)) (hy : s.ev y = some (.s b)) (h : a = b) : RP c o s (.b true) := rp_b (rp_eqls ho hx hy) (by simp [h])
theorem rp_neqsF {t t' : TypeId} {x y : Operand} {a b : ByteArray} (ho : o.op = .binOp .neq t x y t') (hx : s.ev x = some (.s a)) (hy : s.ev y = some (.s b)) (h : a = b) : RP c o s (.b false) := rp_b (rp_neqs ho hx hy) (by simp [h])
theorem rp_adds {t t' : TypeId} {x y : Operand} {a b : ByteArray} (ho : o.op = .binOp .add t x y t') (hx : s.ev x = some (.s a)) (hy : s.ev y = some (.s b)) (h : a.size + b.size ≤ 9223372036854775807) : RP c o s (.s (a ++ b)) :=
  rp_bin ho hx hy fun w => by
    have hm : IntKind.i64.max = 9223372036854775807 := by rfl
    have h1 : ¬ ((9223372036854775807 : Int) < (a.size : Int) + b.size) := by omega
    simp [eqGuard, binOp, Op.stringOp, hm]
    omega

theorem agg_p {w : World} {q : Nat → Prop} {g : Nat → Nat × Nat} {vs : List Value} {x : Value} (h : VRep w q g (.agg (vs.map fun y => .d (.p y))) x) : x = .agg vs.toArray := by
  generalize hl : vs.map (fun y => V.d (.p y)) = l at h
  cases h with
  | agg _ cs hlen hh =>
    subst hl
    congr 2
    apply List.ext_getElem?
    intro j
    simp only [List.length_map] at hlen
    by_cases hj : j < vs.length
    · have h1 := hh j (.d (.p vs[j])) cs[j] (by simp [hj]) (List.getElem?_eq_getElem (by omega))
      rw [List.getElem?_eq_getElem (show j < cs.length by omega), List.getElem?_eq_getElem hj, VRep.p_eq h1]
    · rw [List.getElem?_eq_none (by omega), List.getElem?_eq_none (by omega)]
/-- Two structs of plain values are held against each other. -/
theorem rp_bin_agg {op : BinOp} {t t' : TypeId} {x y : Operand} (us vs : List Value) {b : Bool} (ho : o.op = .binOp op t x y t') (hx : s.ev x = some (.agg (us.map fun y => .d (.p y)))) (hy : s.ev y = some (.agg (vs.map fun y => .d (.p y))))
    (hg : ∀ w, (eqGuard op t x y (.agg us.toArray) (.agg vs.toArray)).run c.P w = .ok () w) (hr : ∀ w, (binOp op t (.agg us.toArray) (.agg vs.toArray)).run c.P w = .ok (.bool b) w) : RP c o s (.b b) := fun g a w hs =>
  ⟨.bool b, .d _ _ (.p _), fun w' => by
    simp only [execOp, ho, agg_p (hs.ev hx), agg_p (hs.ev hy), Sem.run_bind, hg w', hr w', Result.andThen_ok]
    rfl⟩

/-- A copy of a slice: append onto nil. -/
theorem sm_clone {t e : TypeId} {x y : Operand} {sz bt bt' : Nat} {z : Value} {rows : List (List D)} (hu : c.P.underlying t = some (.slice e)) (hi : Inf c.P e sz bt z) (hzs : z.cells.size = sz) (hsz : 0 < sz) (hbb : bt ≤ bt') (hpos : 0 < bt)
    (ho : o.op = .call { callee := .builtin .append, args := #[x, y], argTypes := #[t, t] }) (hx : s.ev x = some .nil) (hy : s.ev y = some (.d (.sl sz bt' rows))) (hrow : ∀ r ∈ rows, r.length = sz ∧ ∀ u ∈ r, u.one = true) (hd : dok s o = true) : StepM c o s (fun s' => s' = s.put o.dst (.d (.sl sz bt' rows))) := by
  intro g a w hs K Q hK
  have hxv := VRep.p_eq (hs.ev hx)
  have h := hs.ev hy
  obtain ⟨i, hi1, hi2, hi3, hi4⟩ := hi.out
  obtain ⟨ad, cap, b, o', f, hyv, ha, hl, hc, hr⟩ : ∃ (ad : Option Addr) (cap b o' : Nat) (f : Nat → Nat → Value), a.eval y = .slice ad rows.length cap ∧ (rows ≠ [] → ad = some ⟨b, o', none⟩ ∧ qt c s.H g b ∧ b < w.heap.size) ∧ rows.length * bt' ≤ 140737488355328 ∧
      (∀ (i j : Nat) (row : List D) (u : D), rows[i]? = some row → row[j]? = some u → w.cell? ⟨b, o' + i * sz + j, none⟩ = some (f i j)) ∧ (∀ (i j : Nat) (row : List D) (u : D), rows[i]? = some row → row[j]? = some u → DRep w (qt c s.H g) u (f i j)) := by
    generalize a.eval y = v at h
    cases h with
    | d _ _ h => cases h with | sl _ _ _ ad cap b o' f _ ha hl hc hr => exact ⟨ad, cap, b, o', f, rfl, ha, hl, hc, hr⟩
  unfold Oper.wp
  by_cases h0 : rows = []
  · subst h0
    have hexec : (execOp a.eval o).run c.P w = .ok (.value (.slice none 0 0)) w := by
      simp only [execOp, ho, resolve, invoke, builtin, Sem.run_bind, Sem.run_pure, Result.andThen_ok, List.map_toArray, List.map_cons, List.map_nil, hxv, hyv]
      have : (Builtin.append_ #[t, t] o.type #[.slice none 0 0, .slice ad ([] : List (List D)).length cap]).run c.P w = .ok (.slice none 0 0) w := by
        simp [Builtin.append_, run_underlying hu, run_sizeOf hi, Builtin.lenOf]
        cases ad <;> simp [Builtin.firstCells, loadCells, loadCellsFrom]
      rw [this]
      rfl
    rw [hexec]
    exact hK g _ _ _ rfl (hs.put o.dst (dok_spec hd) (.d _ _ (.sl sz bt' [] none 0 0 0 (fun _ _ => undef) (Nat.le_refl 0) (fun h => absurd rfl h) (by simp) (by simp) (by simp)))) (Below.refl _ _)
  · obtain ⟨rfl, hq, hb⟩ := ha h0
    have hle : rows.length * bt ≤ rows.length * bt' := Nat.mul_le_mul_left _ hbb
    have hle2 : rows.length ≤ rows.length * bt := Nat.le_mul_of_pos_right _ hpos
    have hdm : ∀ k, k < rows.length * sz → k / sz < rows.length ∧ k % sz < sz ∧ k = k / sz * sz + k % sz := fun k hk =>
      ⟨by rw [Nat.div_lt_iff_lt_mul hsz]; exact hk, Nat.mod_lt _ hsz, by have := Nat.div_add_mod k sz; rw [Nat.mul_comm] at this; exact this.symm⟩
    have hget : ∀ k, k < rows.length * sz → ∃ row u, rows[k / sz]? = some row ∧ row[k % sz]? = some u ∧ u.one = true ∧ row ∈ rows := by
      intro k hk
      obtain ⟨h1, h2, _⟩ := hdm k hk
      have hm : rows[k / sz] ∈ rows := List.getElem_mem _
      have h3 := hrow _ hm
      refine ⟨rows[k / sz], rows[k / sz][k % sz]'(by omega), List.getElem?_eq_getElem h1, List.getElem?_eq_getElem (by omega), h3.2 _ (List.getElem_mem _), hm⟩
    obtain ⟨v', w', hrun, r1, r2, r3, r4⟩ := run_append_own_at (P := c.P) w w.heap.size t o.type e i z sz bt hu hi1 hi4 hi2 hi3 hzs hsz (.slice none 0 0) 0 [] (World.ownsRow_nil _ _ _ _) ⟨b, o', none⟩ rows.length cap ((List.range (rows.length * sz)).map fun k => f (k / sz) (k % sz)) (by simp) (by
        intro j u hu'
        rw [List.getElem?_map] at hu'
        by_cases hj : j < rows.length * sz
        · rw [List.getElem?_range hj] at hu'
          simp only [Option.map_some, Option.some.injEq] at hu'
          subst hu'
          obtain ⟨row, u, h1, h2, _, _⟩ := hget j hj
          rw [addr_add]
          have := hc _ _ row u h1 h2
          rw [Nat.add_assoc, ← (hdm j hj).2.2] at this
          exact this
        · rw [List.getElem?_eq_none (by simpa using hj)] at hu'; cases hu') (by
        intro u hu'
        obtain ⟨k, hk, rfl⟩ := List.mem_map.1 hu'
        obtain ⟨row, u, h1, h2, h3, _⟩ := hget k (by simpa using hk)
        exact (hr _ _ row u h1 h2).one h3) (by simp only [maxLen]; omega) (by rw [Nat.zero_add]; omega) (Nat.le_refl _)
    obtain ⟨q1, q2⟩ := r1
    rcases q2 with ⟨_, hz0⟩ | ⟨G, cap', cur, rfl, hG, q3, q4, q5, q6, q7⟩
    · have : rows.length = 0 := by omega
      exact absurd (List.eq_nil_of_length_eq_zero this) h0
    · have hbel : Below w.heap.size w w' := (Below.refl _ _).grown r2 (Nat.le_refl _) (fun k hk => by simp [Value.ownBlock] at hk)
      have hexec : (execOp a.eval o).run c.P w = .ok (.value (.slice (some ⟨G, 0, none⟩) (0 + rows.length) cap')) w' := by
        simp only [execOp, ho, resolve, invoke, builtin, Sem.run_bind, Sem.run_pure, Result.andThen_ok, List.map_toArray, List.map_cons, List.map_nil, hxv, hyv, hrun]
      rw [hexec]
      refine hK g _ _ _ rfl ((hs.move hbel).put o.dst (dok_spec hd) (.d _ _ ?_)) hbel
      rw [Nat.zero_add]
      refine .sl sz bt' rows (some ⟨G, 0, none⟩) cap' G 0 f (by omega) (fun _ => ⟨rfl, ⟨fun h => ?_, fun k row hk hn e' => ?_⟩, (Array.getElem?_eq_some_iff.1 q3).1⟩) hl ?_ ?_
      · have h1 := hs.low _ h
        have h2 := hs.below.size
        omega
      · obtain ⟨arr, h1, _⟩ := hs.obj k row hk hn
        have := (Array.getElem?_eq_some_iff.1 h1).1
        omega
      · intro i j row u h1 h2
        rw [Nat.zero_add, cell_of_row w' G _ _ _ _ q3]
        have hil : i < rows.length := (List.getElem?_eq_some_iff.1 h1).1
        have hjl : j < sz := by rw [← (hrow row (List.mem_of_getElem? h1)).1]; exact (List.getElem?_eq_some_iff.1 h2).1
        have hlt : i * sz + j < rows.length * sz := by
          have : (i + 1) * sz ≤ rows.length * sz := Nat.mul_le_mul_right _ hil
          rw [Nat.succ_mul] at this
          omega
        have h3 : (cur.toList.take ((0 + rows.length) * sz))[i * sz + j]? = some (f i j) := by
          rw [q7, List.nil_append, List.getElem?_map, List.getElem?_range hlt]
          simp only [Option.map_some, Option.some.injEq]
          have e1 : (i * sz + j) / sz = i := by
            rw [Nat.mul_comm, Nat.mul_add_div hsz, Nat.div_eq_of_lt hjl, Nat.add_zero]
          have e2 : (i * sz + j) % sz = j := by rw [Nat.mul_comm, Nat.mul_add_mod, Nat.mod_eq_of_lt hjl]
          rw [e1, e2]
        rw [List.getElem?_take_of_lt (by rw [Nat.zero_add]; exact hlt)] at h3
        simpa using h3
      · intro i j row u h1 h2
        exact (hr i j row u h1 h2).mono ⟨hbel.size, fun b o u _ h1 h2 => (hbel.cell (p := ⟨b, o, none⟩) h1).trans h2, Below.maps hbel⟩ (fun _ h _ => h)

/-- A cell that holds nil holds a slice that may grow. -/
theorem Sim.adoptH {g : Nat → Nat × Nat} {a : Act} {w : World} (hs : Sim c g s a w) {b j r sz : Nat} {ty : TypeId} {row : Row} (hb : fnd s.H b = some row) (hn : row.nil = false) (hj : row.cells[j]? = some .nil) (hr : s.clean r = true) : Sim c g ⟨s.n, s.T, (b, { row with cells := row.cells.set j (.own r sz 0 true) }) :: (r, ⟨ty, [], true, sz⟩) :: s.H, s.K⟩ a w := by
  have hbr : b ≠ r := (S.clean_obj hr hb).1
  have hfn : ∀ k row', fnd ((b, { row with cells := row.cells.set j (.own r sz 0 true) }) :: (r, (⟨ty, [], true, sz⟩ : Row)) :: s.H) k = some row' → k = b ∧ row' = { row with cells := row.cells.set j (.own r sz 0 true) } ∨ k ≠ b ∧ k = r ∧ row' = ⟨ty, [], true, sz⟩ ∨ k ≠ b ∧ k ≠ r ∧ fnd s.H k = some row' := by
    intro k row' hk
    by_cases e : k = b
    · subst e; simp [fnd] at hk; exact .inl ⟨rfl, hk.symm⟩
    · by_cases e' : k = r
      · subst e'; simp [fnd, e, Ne.symm e] at hk; exact .inr (.inl ⟨e, rfl, hk.symm⟩)
      · simp only [fnd, beq_iff_eq, Ne.symm e, Ne.symm e', if_false] at hk; exact .inr (.inr ⟨e, e', hk⟩)
  have hq : ∀ x, qt c s.H g x → x < w.heap.size → qt c ((b, { row with cells := row.cells.set j (.own r sz 0 true) }) :: (r, (⟨ty, [], true, sz⟩ : Row)) :: s.H) g x := by
    intro x hx _
    refine ⟨hx.1, fun k row' hk hkn => ?_⟩
    rcases hfn k row' hk with ⟨rfl, rfl⟩ | ⟨_, rfl, rfl⟩ | ⟨_, _, h⟩
    · exact hx.2 _ row hb hn
    · cases hkn
    · exact hx.2 k row' h hkn
  have hm : ∀ {v x}, VRep w (qt c s.H g) g v x → VRep w (qt c ((b, { row with cells := row.cells.set j (.own r sz 0 true) }) :: (r, (⟨ty, [], true, sz⟩ : Row)) :: s.H) g) g v x := fun hv => hv.mono Cells.rfl hq (fun _ _ => rfl)
  refine ⟨hs.size, hs.defers, ?_, ?_, ?_, ?_, ?_, ?_, hs.low, hs.below⟩
  · intro i v hv
    obtain ⟨x, h1, h2⟩ := hs.tmp i v hv
    exact ⟨x, h1, hm h2⟩
  · intro k row' hk hkn
    rcases hfn k row' hk with ⟨rfl, rfl⟩ | ⟨_, rfl, rfl⟩ | ⟨_, _, h⟩
    · simp only at hkn; rw [hn] at hkn; cases hkn
    · rfl
    · exact hs.nul k row' h hkn
  · intro k row' hk hkn
    rcases hfn k row' hk with ⟨rfl, rfl⟩ | ⟨_, rfl, rfl⟩ | ⟨_, _, h⟩
    · obtain ⟨arr, h1, h2, h3⟩ := hs.obj _ row hb hn
      refine ⟨arr, h1, h2, fun i v hv => ?_⟩
      simp only [List.getElem?_set] at hv
      split at hv
      · rename_i e
        subst e
        split at hv
        · simp only [Option.some.injEq] at hv
          subst hv
          obtain ⟨x, h4, h5⟩ := h3 j _ hj
          refine ⟨x, h4, ?_⟩
          rw [VRep.p_eq h5]
          exact .ownNil r sz
        · cases hv
      · obtain ⟨x, h4, h5⟩ := h3 i v hv
        exact ⟨x, h4, hm h5⟩
    · cases hkn
    · obtain ⟨arr, h1, h2, h3⟩ := hs.obj k row' h hkn
      refine ⟨arr, h1, h2, fun i v hv => ?_⟩
      obtain ⟨x, h4, h5⟩ := h3 i v hv
      exact ⟨x, h4, hm h5⟩
  · intro i v x h1 h2
    exact hm (hs.keep i v x h1 h2)
  · intro k k' row1 row2 h1 n1 h2 n2 h3
    rcases hfn k row1 h1 with ⟨rfl, rfl⟩ | ⟨_, rfl, rfl⟩ | ⟨e1, _, h⟩ <;> rcases hfn k' row2 h2 with ⟨rfl, rfl⟩ | ⟨_, rfl, rfl⟩ | ⟨e2, _, h'⟩
    · rfl
    · cases n2
    · exact hs.inj _ _ _ _ hb hn h' n2 h3
    · cases n1
    · cases n1
    · cases n1
    · exact hs.inj _ _ _ _ h n1 hb hn h3
    · cases n2
    · exact hs.inj _ _ _ _ h n1 h' n2 h3
  · intro k row' hk hkn
    rcases hfn k row' hk with ⟨rfl, rfl⟩ | ⟨_, rfl, rfl⟩ | ⟨_, _, h⟩
    · exact hs.base _ row hb hn
    · cases hkn
    · exact hs.base k _ h hkn
theorem AW.adoptH {Q : Exit → S → Prop} {code : Code} (b j r sz : Nat) (ty : TypeId) {row : Row} (hb : fnd s.H b = some row) (hn : row.nil = false) (hj : row.cells[j]? = some .nil) (hr : s.clean r = true)
    (h : AW c code Q ⟨s.n, s.T, (b, { row with cells := row.cells.set j (.own r sz 0 true) }) :: (r, ⟨ty, [], true, sz⟩) :: s.H, s.K⟩) : AW c code Q s := fun g a w hs => h g a w (hs.adoptH hb hn hj hr)
/-- A cell that holds a slice of the call's own holds plain data. -/
theorem Sim.freezeH {g : Nat → Nat × Nat} {a : Act} {w : World} (hs : Sim c g s a w) {b j r sz bt n : Nat} {f : Bool} {row0 row : Row} {rows : List (List D)} (hb : fnd s.H b = some row0) (hn0 : row0.nil = false) (hj : row0.cells[j]? = some (.own r sz n f)) (hbr : b ≠ r) (hr : fnd s.H r = some row) (hf : row.nil = f) (hlen : rows.length = n) (hn : n * bt ≤ 140737488355328)
    (hrows : ∀ (i j : Nat) (l : List D) (u : D), rows[i]? = some l → l[j]? = some u → row.cells[i * sz + j]? = some (.d u)) : Sim c g ⟨s.n, s.T, (b, { row0 with cells := row0.cells.set j (.d (.sl sz bt rows)) }) :: s.H.filter (fun x => x.1 != r), s.K⟩ a w := by
  have hfn : ∀ k row', fnd ((b, { row0 with cells := row0.cells.set j (.d (.sl sz bt rows)) }) :: s.H.filter (fun x => x.1 != r)) k = some row' → k = b ∧ row' = { row0 with cells := row0.cells.set j (.d (.sl sz bt rows)) } ∨ k ≠ b ∧ k ≠ r ∧ fnd s.H k = some row' := by
    intro k row' hk
    by_cases e : k = b
    · subst e; simp [fnd] at hk; exact .inl ⟨rfl, hk.symm⟩
    · simp only [fnd, beq_iff_eq, Ne.symm e, if_false] at hk
      have e' : k ≠ r := by rintro rfl; rw [fnd_filter_self] at hk; cases hk
      rw [fnd_filter r _ _ e'] at hk
      exact .inr ⟨e, e', hk⟩
  have hq : ∀ x, qt c s.H g x → x < w.heap.size → qt c ((b, { row0 with cells := row0.cells.set j (.d (.sl sz bt rows)) }) :: s.H.filter (fun x => x.1 != r)) g x := by
    intro x hx _
    refine ⟨hx.1, fun k row' hk hkn => ?_⟩
    rcases hfn k row' hk with ⟨rfl, rfl⟩ | ⟨_, _, h⟩
    · exact hx.2 _ row0 hb hn0
    · exact hx.2 k row' h hkn
  have hm : ∀ {v x}, VRep w (qt c s.H g) g v x → VRep w (qt c ((b, { row0 with cells := row0.cells.set j (.d (.sl sz bt rows)) }) :: s.H.filter (fun x => x.1 != r)) g) g v x := fun hv => hv.mono Cells.rfl hq (fun _ _ => rfl)
  refine ⟨hs.size, hs.defers, ?_, ?_, ?_, ?_, ?_, ?_, hs.low, hs.below⟩
  · intro i v hv
    obtain ⟨x, h1, h2⟩ := hs.tmp i v hv
    exact ⟨x, h1, hm h2⟩
  · intro k row' hk hkn
    rcases hfn k row' hk with ⟨rfl, rfl⟩ | ⟨_, _, h⟩
    · simp only at hkn; rw [hn0] at hkn; cases hkn
    · exact hs.nul k row' h hkn
  · intro k row' hk hkn
    rcases hfn k row' hk with ⟨rfl, rfl⟩ | ⟨_, _, h⟩
    · obtain ⟨arr, h1, h2, h3⟩ := hs.obj _ row0 hb hn0
      refine ⟨arr, h1, h2, fun i v hv => ?_⟩
      simp only [List.getElem?_set] at hv
      split at hv
      · rename_i e
        subst e
        split at hv
        · simp only [Option.some.injEq] at hv
          subst hv
          obtain ⟨x, h4, h5⟩ := h3 j _ hj
          refine ⟨x, h4, .d _ _ ?_⟩
          cases h5 with
          | own _ _ _ hle hcap =>
            obtain ⟨ar2, h6, _, h7⟩ := hs.obj r row hr hf
            subst hlen
            have hob : ¬ c.out (g r).1 := fun h => by
              have h8 := hs.low _ h
              have h9 := hs.base r row hr hf
              omega
            refine .sl sz bt rows _ _ (g r).1 0 (fun i j => ar2.getD (i * sz + j) undef) hle (fun _ => ⟨rfl, ⟨hob, fun k row' hk hkn e => ?_⟩, (Array.getElem?_eq_some_iff.1 h6).1⟩) hn ?_ ?_
            · rcases hfn k row' hk with ⟨rfl, rfl⟩ | ⟨_, k1, k2⟩
              · exact hbr (hs.inj _ r _ _ hb hn0 hr hf e)
              · exact k1 (hs.inj k r _ _ k2 hkn hr hf e)
            · intro i j l u hi hj
              obtain ⟨y, h8, h9⟩ := h7 _ _ (hrows i j l u hi hj)
              rw [Nat.zero_add, cell_of_row w _ _ _ _ _ h6, h8]
              simp [Array.getD_eq_getD_getElem?, h8]
            · intro i j l u hi hj
              obtain ⟨y, h8, h9⟩ := h7 _ _ (hrows i j l u hi hj)
              cases hm h9 with
              | d _ _ h10 => simpa [Array.getD_eq_getD_getElem?, h8] using h10
          | ownNil =>
            have : rows = [] := by simpa using hlen
            subst this
            exact .sl sz bt [] none 0 0 0 (fun _ _ => undef) (Nat.le_refl 0) (fun h => absurd rfl h) (by simp) (by simp) (by simp)
        · cases hv
      · obtain ⟨x, h4, h5⟩ := h3 i v hv
        exact ⟨x, h4, hm h5⟩
    · obtain ⟨arr, h1, h2, h3⟩ := hs.obj k row' h hkn
      refine ⟨arr, h1, h2, fun i v hv => ?_⟩
      obtain ⟨x, h4, h5⟩ := h3 i v hv
      exact ⟨x, h4, hm h5⟩
  · intro i v x h1 h2
    exact hm (hs.keep i v x h1 h2)
  · intro k k' row1 row2 h1 n1 h2 n2 h3
    rcases hfn k row1 h1 with ⟨rfl, rfl⟩ | ⟨e1, _, h⟩ <;> rcases hfn k' row2 h2 with ⟨rfl, rfl⟩ | ⟨e2, _, h'⟩
    · rfl
    · exact hs.inj _ _ _ _ hb hn0 h' n2 h3
    · exact hs.inj _ _ _ _ h n1 hb hn0 h3
    · exact hs.inj _ _ _ _ h n1 h' n2 h3
  · intro k row' hk hkn
    rcases hfn k row' hk with ⟨rfl, rfl⟩ | ⟨_, _, h⟩
    · exact hs.base _ row0 hb hn0
    · exact hs.base k _ h hkn
theorem AW.freezeH {Q : Exit → S → Prop} {code : Code} (b j bt : Nat) {r sz n : Nat} {f : Bool} {row0 row : Row} (rows : List (List D)) (hb : fnd s.H b = some row0) (hn0 : row0.nil = false) (hj : row0.cells[j]? = some (.own r sz n f)) (hbr : b ≠ r) (hr : fnd s.H r = some row) (hf : row.nil = f) (hlen : rows.length = n) (hn : n * bt ≤ 140737488355328)
    (hrows : ∀ (i j : Nat) (l : List D) (u : D), rows[i]? = some l → l[j]? = some u → row.cells[i * sz + j]? = some (.d u)) (h : AW c code Q ⟨s.n, s.T, (b, { row0 with cells := row0.cells.set j (.d (.sl sz bt rows)) }) :: s.H.filter (fun x => x.1 != r), s.K⟩) : AW c code Q s :=
  fun g a w hs => h g a w (hs.freezeH hb hn0 hj hbr hr hf hlen hn hrows)
theorem rowsF {l : List α} {enc : α → List D} {sz : Nat} (hsz : ∀ x, (enc x).length = sz) {cells : List V} (h : cells = l.flatMap (fun x => (enc x).map V.d)) : ∀ (i j : Nat) (l' : List D) (u : D), (l.map enc)[i]? = some l' → l'[j]? = some u → cells[i * sz + j]? = some (.d u) := by
  intro i j l' u h1 h2
  rw [List.getElem?_map] at h1
  cases h3 : l[i]? with
  | none => rw [h3] at h1; cases h1
  | some x =>
    rw [h3] at h1
    simp only [Option.map_some, Option.some.injEq] at h1
    subst h1 h
    induction l generalizing i with
    | nil => simp at h3
    | cons y l ih =>
      rw [List.flatMap_cons]
      cases i with
      | zero =>
        simp at h3
        subst h3
        rw [Nat.zero_mul, Nat.zero_add, List.getElem?_append_left (by simp; exact (List.getElem?_eq_some_iff.1 h2).1)]
        simp [h2]
      | succ i =>
        rw [List.getElem?_append_right (by simp [hsz]; rw [Nat.succ_mul]; omega)]
        simp only [List.length_map, hsz]
        rw [show (i + 1) * sz + j - sz = i * sz + j by rw [Nat.succ_mul]; omega]
        exact ih i (by simpa using h3)
theorem flat_len {l : List α} {f : α → List V} {sz : Nat} (hf : ∀ x, (f x).length = sz) : (l.flatMap f).length = l.length * sz := by
  induction l with
  | nil => simp
  | cons x l ih => simp [ih, hf, Nat.succ_mul, Nat.add_comm]

theorem st_appendF {t e : TypeId} {x y : Operand} {r r2 sz bt n m : Nat} {z : Value} {f : Bool} {row row2 : Row} {news : List V} (hu : c.P.underlying t = some (.slice e)) (hi : Inf c.P e sz bt z) (hzs : z.cells.size = sz) (hsz : 0 < sz)
    (ho : o.op = .call { callee := .builtin .append, args := #[x, y], argTypes := #[t, t] }) (hx : s.ev x = some (.own r sz n f)) (hr : fnd s.H r = some row) (hf : row.nil = f) (hrz : row.sz = sz) (hty : row.ty = e)
    (hl1 : row.cells.length = n * sz) (hc1 : V.hasL r row.cells = false) (hy : s.ev y = some (.own r2 sz m false)) (hr2 : fnd s.H r2 = some row2) (hf2 : row2.nil = false) (hnews : row2.cells.take (m * sz) = news) (hnl : news.length = m * sz) (hc2 : V.hasL r news = false) (hone : news.all V.one = true) (hm : 0 < m) (h63 : n + m ≤ 140737488355328) (hbt : (n + m) * bt ≤ 140737488355328) (hd : dok s o = true) :
    Step c o s (fun s' => s' = S.put ⟨s.n, (s.forget r).T, (r, ⟨e, row.cells ++ news, false, sz⟩) :: (s.forget r).H, (s.forget r).K⟩ o.dst (.own r sz (n + m) false)) :=
  st_append hu hi hzs hsz ho hx hr hf hrz hty (List.take_of_length_le (by omega)) hl1 hc1 hy hr2 hf2 hnews hnl hc2 hone hm h63 hbt hd
@[simp] theorem hasL_append (r : Nat) (l l' : List V) : V.hasL r (l ++ l') = (V.hasL r l || V.hasL r l') := by
  induction l with
  | nil => rfl
  | cons v l ih => simp [V.hasL, ih, Bool.or_assoc]
@[simp] theorem hasL_flat (r : Nat) (l : List α) (enc : α → List D) : V.hasL r (l.flatMap (fun x => (enc x).map V.d)) = false := by
  simp [V.hasL_false, V.has]
  intro v x _ u _ h
  subst h
  rfl
end
end Go.Proofs.Ythlcginebeapdaa
