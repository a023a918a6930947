/- The operations that read, as rules of the walk without worlds. -/
import Derived.Test.YthlcginebeapdaaAmC
namespace Go.Proofs.Ythlcginebeapdaa
open Go.RowKit
set_option linter.unusedSimpArgs false
set_option linter.unusedVariables false

abbrev V.i (n : Int) : V := .d (.p (.int .i64 n))
abbrev V.b (b : Bool) : V := .d (.p (.bool b))
abbrev V.s (s : ByteArray) : V := .d (.p (.string s))
abbrev V.nil : V := .d (.p (.slice none 0 0))

/-- What the table of types says of one. -/
def Inf (P : Program) (t : TypeId) (sz bt : Nat) (z : Value) : Prop := (P.info? t).map (fun i => (i.size, i.bytes, i.zero)) = some (sz, bt, some z)
theorem Inf.out {P : Program} {t : TypeId} {sz bt : Nat} {z : Value} (h : Inf P t sz bt z) : ∃ i, P.info? t = some i ∧ i.size = sz ∧ i.bytes = bt ∧ i.zero = some z := by
  unfold Inf at h
  cases hi : P.info? t with
  | none => rw [hi] at h; cases h
  | some i =>
    rw [hi] at h
    simp only [Option.map_some, Option.some.injEq, Prod.mk.injEq] at h
    exact ⟨i, rfl, h.1, h.2.1, h.2.2⟩

def isAggD : TypeDesc → Bool
  | .struct _ => true
  | .array _ _ => true
  | _ => false
theorem run_isAgg {P : Program} {t : TypeId} {d : TypeDesc} (h : P.underlying t = some d) (w : World) : (isAgg t).run P w = .ok (isAggD d) w := by
  unfold isAgg
  simp only [Sem.run_bind, run_underlying h, Result.andThen_ok]
  cases d <;> rfl
theorem run_sizeOf {P : Program} {t : TypeId} {sz bt : Nat} {z : Value} (h : Inf P t sz bt z) (w : World) : (sizeOf t).run P w = .ok sz w := by
  obtain ⟨i, h1, h2, _⟩ := h.out
  unfold sizeOf typeInfo
  simp [h1, h2]
theorem run_zeroValue {P : Program} {t : TypeId} {sz bt : Nat} {z : Value} (h : Inf P t sz bt z) (w : World) : (zeroValue t).run P w = .ok z w := by
  obtain ⟨i, h1, h2, h3, h4⟩ := h.out
  unfold zeroValue typeInfo
  simp [h1, h4]
theorem run_load_cell {P : Program} {w : World} {a : Addr} {v : Value} (h : w.cell? a = some v) : (load a).run P w = .ok v w := by
  simp [h]

section
variable {c : Cx} {s : S} {o : Oper}

theorem rp_move {x : Operand} {v : V} (ho : o.op = .move x) (hx : s.ev x = some v) : RP c o s v := fun g a w hs =>
  ⟨a.eval x, hs.ev hx, fun w' => by simp [execOp, ho]⟩
theorem rp_assign {x : Operand} {v : V} (ho : o.op = .assign x) (hx : s.ev x = some v) : RP c o s v := fun g a w hs =>
  ⟨a.eval x, hs.ev hx, fun w' => by simp [execOp, ho]⟩
theorem rp_pick {x y z : Operand} {b : Bool} {v : V} (ho : o.op = .pick x y z) (hx : s.ev x = some (.b b)) (hv : s.ev (if b then y else z) = some v) : RP c o s v := fun g a w hs =>
  ⟨a.eval (if b then y else z), hs.ev hv, fun w' => by
    have := VRep.p_eq (hs.ev hx)
    cases b <;> simp [execOp, ho, this, asBool]⟩

/-- An operation on plain values. -/
theorem rp_bin {op : BinOp} {t t' : TypeId} {x y : Operand} {u v r : Value} (ho : o.op = .binOp op t x y t') (hx : s.ev x = some (.d (.p u))) (hy : s.ev y = some (.d (.p v)))
    (hr : ∀ w, (do eqGuard op t x y u v; binOp op t u v : Sem Value).run c.P w = .ok r w) : RP c o s (.d (.p r)) := fun g a w hs =>
  ⟨r, .d _ _ (.p _), fun w' => by
    have h := hr w'
    simp only [execOp, ho, VRep.p_eq (hs.ev hx), VRep.p_eq (hs.ev hy), Sem.run_bind] at h ⊢
    rw [h]
    rfl⟩
theorem wrap_in {n : Int} (h1 : -9223372036854775808 ≤ n) (h2 : n ≤ 9223372036854775807) : IntKind.i64.wrap n = n := by
  rw [IntKind.wrap_i64]
  omega
theorem rp_add {t t' : TypeId} {x y : Operand} {m n : Int} (ho : o.op = .binOp .add t x y t') (hx : s.ev x = some (.i m)) (hy : s.ev y = some (.i n))
    (h1 : -9223372036854775808 ≤ m + n ∧ m + n ≤ 9223372036854775807) : RP c o s (.i (m + n)) :=
  rp_bin ho hx hy fun w => by simp [eqGuard, binOp, Op.intArith, wrap_in h1.1 h1.2]
theorem rp_sub {t t' : TypeId} {x y : Operand} {m n : Int} (ho : o.op = .binOp .sub t x y t') (hx : s.ev x = some (.i m)) (hy : s.ev y = some (.i n))
    (h1 : -9223372036854775808 ≤ m - n ∧ m - n ≤ 9223372036854775807) : RP c o s (.i (m - n)) :=
  rp_bin ho hx hy fun w => by simp [eqGuard, binOp, Op.intArith, wrap_in h1.1 h1.2]
theorem rp_mul {t t' : TypeId} {x y : Operand} {m n : Int} (ho : o.op = .binOp .mul t x y t') (hx : s.ev x = some (.i m)) (hy : s.ev y = some (.i n))
    (h1 : -9223372036854775808 ≤ m * n ∧ m * n ≤ 9223372036854775807) : RP c o s (.i (m * n)) :=
  rp_bin ho hx hy fun w => by simp [eqGuard, binOp, Op.intArith, wrap_in h1.1 h1.2]
theorem rp_quo {t t' : TypeId} {x y : Operand} {m n : Int} (ho : o.op = .binOp .quo t x y t') (hx : s.ev x = some (.i m)) (hy : s.ev y = some (.i n))
    (h1 : 0 ≤ m ∧ m ≤ 9223372036854775807 ∧ 0 < n) : RP c o s (.i (m / n)) :=
  rp_bin ho hx hy fun w => by
    have h2 : n ≠ 0 := by omega
    have h3 : m.tdiv n = m / n := Int.tdiv_eq_ediv_of_nonneg h1.1
    have h4 : 0 ≤ m / n := Int.ediv_nonneg h1.1 (by omega)
    have h5 : m / n ≤ m := Int.ediv_le_self _ h1.1
    simp [eqGuard, binOp, Op.intDiv, h2, h3, wrap_in (n := m / n) (by omega) (by omega)]
theorem rp_rem {t t' : TypeId} {x y : Operand} {m n : Int} (ho : o.op = .binOp .rem t x y t') (hx : s.ev x = some (.i m)) (hy : s.ev y = some (.i n))
    (h1 : 0 ≤ m ∧ 0 < n) : RP c o s (.i (m % n)) :=
  rp_bin ho hx hy fun w => by
    have h2 : n ≠ 0 := by omega
    have h3 : m.tmod n = m % n := Int.tmod_eq_emod_of_nonneg h1.1
    simp [eqGuard, binOp, Op.intDiv, h2, h3]
theorem rp_eql {t t' : TypeId} {x y : Operand} {k : IntKind} {m n : Int} (ho : o.op = .binOp .eql t x y t') (hx : s.ev x = some (.d (.p (.int k m)))) (hy : s.ev y = some (.d (.p (.int k n)))) : RP c o s (.b (decide (m = n))) :=
  rp_bin ho hx hy fun w => by simp [eqGuard, binOp, Op.intCmp]; rfl
theorem rp_neq {t t' : TypeId} {x y : Operand} {k : IntKind} {m n : Int} (ho : o.op = .binOp .neq t x y t') (hx : s.ev x = some (.d (.p (.int k m)))) (hy : s.ev y = some (.d (.p (.int k n)))) : RP c o s (.b (decide (m ≠ n))) :=
  rp_bin ho hx hy fun w => by
    simp [eqGuard, binOp, Op.intCmp]
    cases h : (m == n) <;> simp_all [bne]
theorem rp_lss {t t' : TypeId} {x y : Operand} {k : IntKind} {m n : Int} (ho : o.op = .binOp .lss t x y t') (hx : s.ev x = some (.d (.p (.int k m)))) (hy : s.ev y = some (.d (.p (.int k n)))) : RP c o s (.b (decide (m < n))) :=
  rp_bin ho hx hy fun w => by simp [eqGuard, binOp, Op.intCmp]
theorem rp_leq {t t' : TypeId} {x y : Operand} {k : IntKind} {m n : Int} (ho : o.op = .binOp .leq t x y t') (hx : s.ev x = some (.d (.p (.int k m)))) (hy : s.ev y = some (.d (.p (.int k n)))) : RP c o s (.b (decide (m ≤ n))) :=
  rp_bin ho hx hy fun w => by simp [eqGuard, binOp, Op.intCmp]
theorem rp_gtr {t t' : TypeId} {x y : Operand} {k : IntKind} {m n : Int} (ho : o.op = .binOp .gtr t x y t') (hx : s.ev x = some (.d (.p (.int k m)))) (hy : s.ev y = some (.d (.p (.int k n)))) : RP c o s (.b (decide (n < m))) :=
  rp_bin ho hx hy fun w => by simp [eqGuard, binOp, Op.intCmp]
theorem rp_geq {t t' : TypeId} {x y : Operand} {k : IntKind} {m n : Int} (ho : o.op = .binOp .geq t x y t') (hx : s.ev x = some (.d (.p (.int k m)))) (hy : s.ev y = some (.d (.p (.int k n)))) : RP c o s (.b (decide (n ≤ m))) :=
  rp_bin ho hx hy fun w => by simp [eqGuard, binOp, Op.intCmp]
theorem rp_not {t : TypeId} {x : Operand} {b : Bool} (ho : o.op = .unOp .not t x) (hx : s.ev x = some (.b b)) : RP c o s (.b (!b)) := fun g a w hs =>
  ⟨.bool (!b), .d _ _ (.p _), fun w' => by simp [execOp, ho, VRep.p_eq (hs.ev hx), Op.unary]⟩
theorem rp_neg {t : TypeId} {x : Operand} {n : Int} (ho : o.op = .unOp .neg t x) (hx : s.ev x = some (.i n)) (h : -9223372036854775807 ≤ n ∧ n ≤ 9223372036854775807) : RP c o s (.i (-n)) := fun g a w hs =>
  ⟨.int .i64 (-n), .d _ _ (.p _), fun w' => by
    have := wrap_in (n := -n) (by omega) (by omega)
    simp [execOp, ho, VRep.p_eq (hs.ev hx), Op.unary, Op.intArith, this]⟩
theorem rp_extract {x : Operand} {i : Nat} {l : List V} {v : V} (ho : o.op = .extract x i) (hx : s.ev x = some (.tup l)) (hv : l[i]? = some v) : RP c o s v := fun g a w hs => by
  have h := hs.ev hx
  generalize hy : a.eval x = y at h
  cases h with
  | tup _ cs hlen h =>
    have hlt : i < cs.length := by rw [← hlen]; exact (List.getElem?_eq_some_iff.1 hv).1
    refine ⟨cs[i], h i v _ hv (List.getElem?_eq_getElem hlt), fun w' => ?_⟩
    simp [execOp, ho, hy, Instr.extract, List.getElem?_eq_getElem hlt]
theorem rp_func {fn : FuncId} {cap : Array Operand} {vs : List V} (ho : o.op = .makeFunc (.func fn) #[] cap) (hv : cap.toList.map s.ev = vs.map some) : RP c o s (.fn fn vs) := fun g a w hs => by
  have hl : vs.length = (cap.toList.map a.eval).length := by
    have := congrArg List.length hv
    simpa using this.symm
  refine ⟨.func (.func fn) #[] (cap.toList.map a.eval).toArray, .fn _ _ _ hl ?_, fun w' => ?_⟩
  · intro j u y h1 h2
    have h3 := congrArg (fun l => l[j]?) hv
    simp only [List.getElem?_map, h1, Option.map_some] at h3 h2
    cases h4 : cap.toList[j]? with
    | none => rw [h4] at h3; cases h3
    | some x =>
      rw [h4] at h3 h2
      simp only [Option.map_some, Option.some.injEq] at h3 h2
      subst h2
      exact hs.ev h3
  · simp [execOp, ho, Instr.makeFunc, ← Array.toList_map]
theorem rp_nilCheck {x : Operand} {r k : Nat} (ho : o.op = .nilCheck x) (hx : s.ev x = some (.ref r k)) : RP c o s (.ref r k) := fun g a w hs => by
  have h := hs.ev hx
  refine ⟨a.eval x, h, fun w' => ?_⟩
  generalize hy : a.eval x = y at h
  cases h
  simp [execOp, ho, hy]

/-- The address of a field. -/
theorem rp_field_ref {t : TypeId} {x : Operand} {f r k k' : Nat} {fs : Array Field} {fd : Field} {sz bt : Nat} {z : Value} (hu : c.P.underlying t = some (.struct fs)) (ho : o.op = .fieldAddr t x f) (hx : s.ev x = some (.ref r k))
    (hf : fs[f]? = some fd) (hi : Inf c.P fd.type sz bt z) (hsz : sz ≠ 0) (hk : k + fd.offset = k') : RP c o s (.ref r k') := fun g a w hs => by
  have h := hs.ev hx
  refine ⟨.pointer (some ⟨(g r).1, k', none⟩), .ref _ _, fun w' => ?_⟩
  generalize hy : a.eval x = y at h
  cases h
  subst hk
  simp [execOp, ho, hy, Instr.fieldAt, run_underlying hu, hf, Instr.sureAddr, fieldPlace, run_sizeOf hi, hsz, addr_add]
theorem rp_field_ad {t : TypeId} {x : Operand} {f k : Nat} {row : List D} {fs : Array Field} {fd : Field} {sz bt : Nat} {z : Value} (hu : c.P.underlying t = some (.struct fs)) (ho : o.op = .fieldAddr t x f) (hx : s.ev x = some (.ad row))
    (hf : fs[f]? = some fd) (hi : Inf c.P fd.type sz bt z) (hsz : sz ≠ 0) (hk : fd.offset = k) : RP c o s (.ad (row.drop k)) := fun g a w hs => by
  have h := hs.ev hx
  generalize hy : a.eval x = y at h
  cases h with
  | ad _ b o' f' hq hc hr =>
    subst hk
    refine ⟨.pointer (some ⟨b, o' + fd.offset, none⟩), .ad _ b _ (fun j => f' (fd.offset + j)) hq (fun j u hu => ?_) (fun j u hu => ?_), fun w' => ?_⟩
    · rw [Nat.add_assoc]; exact hc _ u (by simpa using hu)
    · exact hr _ u (by simpa using hu)
    · simp [execOp, ho, hy, Instr.fieldAt, run_underlying hu, hf, Instr.sureAddr, fieldPlace, run_sizeOf hi, hsz, addr_add]

/-- A load of one cell. -/
theorem rd_load_ref {t : TypeId} {d : TypeDesc} {x : Operand} {r k : Nat} {row : Row} {v : V} (hu : c.P.underlying t = some d) (hd : isAggD d = false) (ho : o.op = .load t x) (hx : s.ev x = some (.ref r k)) (hr : fnd s.H r = some row) (hn : row.nil = false) (hv : row.cells[k]? = some v) : RD c o s v := fun g a w hs => by
  have h := hs.ev hx
  obtain ⟨arr, h1, _, h2⟩ := hs.obj r row hr hn
  obtain ⟨y, h3, h4⟩ := h2 k v hv
  refine ⟨y, h4, fun w' hb => ?_⟩
  have hlt : (g r).1 < w.heap.size := (Array.getElem?_eq_some_iff.1 h1).1
  have hcell : w'.cell? ⟨(g r).1, k, none⟩ = some y := (hb.cell (p := ⟨(g r).1, k, none⟩) hlt).trans ((cell_of_row w _ _ _ _ _ h1).trans h3)
  generalize hy : a.eval x = z at h
  cases h
  simp [execOp, ho, hy, Instr.loadAt, Instr.sureAddr, loadVar, run_isAgg hu, hd, hcell]
theorem rd_load_ad {t : TypeId} {d : TypeDesc} {x : Operand} {row : List D} {v : D} (hu : c.P.underlying t = some d) (hd : isAggD d = false) (ho : o.op = .load t x) (hx : s.ev x = some (.ad row)) (hv : row[0]? = some v) : RD c o s (.d v) := fun g a w hs => by
  have h := hs.ev hx
  generalize hy : a.eval x = z at h
  cases h with
  | ad _ b o' f hq hc hr =>
    refine ⟨f 0, .d _ _ (hr 0 v hv), fun w' hb => ?_⟩
    have hcell : w'.cell? ⟨b, o', none⟩ = some (f 0) := (hb.cell (p := ⟨b, o', none⟩) hq.2).trans (hc 0 v hv)
    simp [execOp, ho, hy, Instr.loadAt, Instr.sureAddr, loadVar, run_isAgg hu, hd, hcell]
theorem run_loadVar_agg {P : Program} {t : TypeId} {d : TypeDesc} {sz bt : Nat} {z : Value} {w : World} {b o : Nat} {cs : List Value} (hu : P.underlying t = some d) (hd : isAggD d = true) (hi : Inf P t sz bt z) (hl : cs.length = sz)
    (h : ∀ j v, cs[j]? = some v → w.cell? ⟨b, o + j, none⟩ = some v) : (loadVar t ⟨b, o, none⟩).run P w = .ok (.agg cs.toArray) w := by
  have := run_loadCells_list (P := P) (w := w) ⟨b, o, none⟩ cs (fun j v hj => by rw [addr_add]; exact h j v hj)
  subst hl
  simp [loadVar, run_isAgg hu, hd, run_sizeOf hi, this]
theorem rd_loads_ref {t : TypeId} {d : TypeDesc} {x : Operand} {r k sz bt : Nat} {z : Value} {row : Row} {l : List V} (hu : c.P.underlying t = some d) (hd : isAggD d = true) (hi : Inf c.P t sz bt z) (ho : o.op = .load t x) (hx : s.ev x = some (.ref r k)) (hr : fnd s.H r = some row) (hn : row.nil = false)
    (hl : (row.cells.drop k).take sz = l) (hlen : l.length = sz) : RD c o s (.agg l) := fun g a w hs => by
  have h := hs.ev hx
  obtain ⟨arr, h1, _, h2⟩ := hs.obj r row hr hn
  have hat : ∀ (j : Nat) (u : V), l[j]? = some u → row.cells[k + j]? = some u := by
    intro j u hu
    rw [← hl, List.getElem?_take] at hu
    split at hu
    · simpa using hu
    · cases hu
  have hlt : (g r).1 < w.heap.size := (Array.getElem?_eq_some_iff.1 h1).1
  refine ⟨.agg ((List.range sz).map fun j => arr.getD (k + j) undef).toArray, .agg l _ (by simp [hlen]) ?_, fun w' hb => ?_⟩
  · intro j u y hj hy
    obtain ⟨y', h3, h4⟩ := h2 _ u (hat j u hj)
    have hjs : j < sz := by rw [← hlen]; exact (List.getElem?_eq_some_iff.1 hj).1
    simp only [List.getElem?_map, List.getElem?_range hjs, Option.map_some, Option.some.injEq] at hy
    rw [Array.getD_eq_getD_getElem?, h3] at hy
    simp only [Option.getD_some] at hy
    subst hy
    exact h4
  · have hrun := run_loadVar_agg (P := c.P) (w := w') (b := (g r).1) (o := k) (cs := (List.range sz).map fun j => arr.getD (k + j) undef) hu hd hi (by simp) (by
      intro j v hj
      have hjs : j < sz := by simpa using (List.getElem?_eq_some_iff.1 hj).1
      simp only [List.getElem?_map, List.getElem?_range hjs, Option.map_some, Option.some.injEq] at hj
      obtain ⟨y', h3, h4⟩ := h2 _ l[j] (hat j l[j] (List.getElem?_eq_getElem (by omega)))
      rw [Array.getD_eq_getD_getElem?, h3] at hj
      simp only [Option.getD_some] at hj
      subst hj
      exact (hb.cell (p := ⟨(g r).1, k + j, none⟩) hlt).trans ((cell_of_row w _ _ _ _ _ h1).trans h3))
    generalize hy : a.eval x = y at h
    cases h
    simp [execOp, ho, hy, Instr.loadAt, Instr.sureAddr, hrun]
theorem rd_loads_ad {t : TypeId} {d : TypeDesc} {x : Operand} {sz bt : Nat} {z : Value} {row l : List D} (hu : c.P.underlying t = some d) (hd : isAggD d = true) (hi : Inf c.P t sz bt z) (ho : o.op = .load t x) (hx : s.ev x = some (.ad row))
    (hl : row.take sz = l) (hlen : l.length = sz) : RD c o s (.agg (l.map V.d)) := fun g a w hs => by
  have h := hs.ev hx
  generalize hy : a.eval x = y at h
  cases h with
  | ad _ b o' f hq hc hr =>
    have hat : ∀ (j : Nat) (u : D), l[j]? = some u → row[j]? = some u := by
      intro j u hu
      rw [← hl, List.getElem?_take] at hu
      split at hu
      · exact hu
      · cases hu
    refine ⟨.agg ((List.range sz).map f).toArray, .agg _ _ (by simp [hlen]) ?_, fun w' hb => ?_⟩
    · intro j u y hj hy
      have hjs : j < sz := by have := (List.getElem?_eq_some_iff.1 hj).1; simp at this; omega
      simp only [List.getElem?_map, List.getElem?_range hjs, Option.map_some, Option.some.injEq] at hy
      subst hy
      rw [List.getElem?_map] at hj
      cases hk : l[j]? with
      | none => rw [hk] at hj; cases hj
      | some u' =>
        rw [hk] at hj
        simp only [Option.map_some, Option.some.injEq] at hj
        subst hj
        exact .d _ _ (hr j u' (hat j u' hk))
    · have hrun := run_loadVar_agg (P := c.P) (w := w') (b := b) (o := o') (cs := (List.range sz).map f) hu hd hi (by simp) (by
        intro j v hj
        have hjs : j < sz := by simpa using (List.getElem?_eq_some_iff.1 hj).1
        simp only [List.getElem?_map, List.getElem?_range hjs, Option.map_some, Option.some.injEq] at hj
        subst hj
        exact (hb.cell (p := ⟨b, o' + j, none⟩) hq.2).trans (hc j l[j] (hat j _ (List.getElem?_eq_getElem (by omega)))))
      simp [execOp, ho, hy, Instr.loadAt, Instr.sureAddr, hrun]

/-- The address of an element. -/
theorem rp_index_own {t e : TypeId} {x i : Operand} {r sz n bt k : Nat} {z : Value} {n' : Int} {kd : IntKind} (hu : c.P.underlying t = some (.slice e)) (hi : Inf c.P e sz bt z) (ho : o.op = .indexAddr t x i) (hx : s.ev x = some (.own r sz n false)) (hy : s.ev i = some (.d (.p (.int kd n'))))
    (hk : n' = (k : Int)) (hlt : k < n) : RP c o s (.ref r (k * sz)) := fun g a w hs => by
  have h := hs.ev hx
  refine ⟨.pointer (some ⟨(g r).1, k * sz, none⟩), .ref _ _, fun w' => ?_⟩
  generalize hyy : a.eval x = y at h
  cases h with
  | own _ _ _ hn hcap =>
    subst hk
    have hlt' : (k : Int) < n := by omega
    simp [execOp, ho, hyy, VRep.p_eq (hs.ev hy), Instr.indexAt, asIntOf, run_underlying hu, run_sizeOf hi, hlt', addr_add, hlt]
theorem rd_index_sl {t e : TypeId} {x i : Operand} {sz bt bt' k : Nat} {z : Value} {rows : List (List D)} {row : List D} {n' : Int} {kd : IntKind} (hu : c.P.underlying t = some (.slice e)) (hi : Inf c.P e sz bt z) (ho : o.op = .indexAddr t x i) (hx : s.ev x = some (.d (.sl sz bt' rows))) (hy : s.ev i = some (.d (.p (.int kd n'))))
    (hk : n' = (k : Int)) (hr : rows[k]? = some row) : RP c o s (.ad row) := fun g a w hs => by
  have h := hs.ev hx
  generalize hyy : a.eval x = y at h
  cases h with
  | d _ _ h =>
    cases h with
    | sl _ _ _ ad cap b o' f _ ha hl hc hr' =>
      have hne : rows ≠ [] := by rintro rfl; simp at hr
      obtain ⟨rfl, hq⟩ := ha hne
      have hlt : k < rows.length := (List.getElem?_eq_some_iff.1 hr).1
      refine ⟨.pointer (some ⟨b, o' + k * sz, none⟩), .ad row b _ (f k) hq (fun j u hu => hc k j row u hr hu) (fun j u hu => hr' k j row u hr hu), fun w' => ?_⟩
      subst hk
      have hlt' : (k : Int) < rows.length := by omega
      simp [execOp, ho, hyy, VRep.p_eq (hs.ev hy), Instr.indexAt, asIntOf, run_underlying hu, run_sizeOf hi, hlt', addr_add, hlt]
theorem exec_len {ρ : Operand → Value} {t : TypeId} {x : Operand} {w : World} (ho : o.op = .call { callee := .builtin .len, args := #[x], argTypes := #[t] }) {n : Nat} (h : (Builtin.len_ #[t] o.type #[ρ x]).run c.P w = .ok (goInt n) w) : (execOp ρ o).run c.P w = .ok (.value (.int .i64 n)) w := by
  simp only [execOp, ho, resolve, invoke, builtin, Sem.run_bind, Sem.run_pure, Result.andThen_ok, List.map_toArray, List.map_cons, List.map_nil, h]
  rfl
theorem rp_len_own {t e : TypeId} {x : Operand} {r sz n : Nat} {z : Bool} (hu : c.P.underlying t = some (.slice e)) (ho : o.op = .call { callee := .builtin .len, args := #[x], argTypes := #[t] }) (hx : s.ev x = some (.own r sz n z)) : RP c o s (.i (n : Int)) := fun g a w hs => by
  have h := hs.ev hx
  refine ⟨.int .i64 n, .d _ _ (.p _), fun w' => exec_len ho ?_⟩
  generalize a.eval x = y at h
  cases h <;> simp [Builtin.len_, run_underlying hu]
theorem rp_len_sl {t e : TypeId} {x : Operand} {sz bt' : Nat} {rows : List (List D)} (hu : c.P.underlying t = some (.slice e)) (ho : o.op = .call { callee := .builtin .len, args := #[x], argTypes := #[t] }) (hx : s.ev x = some (.d (.sl sz bt' rows))) : RP c o s (.i (rows.length : Int)) := fun g a w hs => by
  have h := hs.ev hx
  refine ⟨.int .i64 rows.length, .d _ _ (.p _), fun w' => exec_len ho ?_⟩
  generalize a.eval x = y at h
  cases h with
  | d _ _ h => cases h; simp [Builtin.len_, run_underlying hu]
theorem rp_len_nil {t e : TypeId} {x : Operand} (hu : c.P.underlying t = some (.slice e)) (ho : o.op = .call { callee := .builtin .len, args := #[x], argTypes := #[t] }) (hx : s.ev x = some .nil) : RP c o s (.i 0) := fun g a w hs => by
  refine ⟨.int .i64 0, .d _ _ (.p _), fun w' => exec_len (n := 0) ho ?_⟩
  rw [VRep.p_eq (hs.ev hx)]
  simp [Builtin.len_, run_underlying hu]
theorem rp_len_str {t : TypeId} {x : Operand} {b : ByteArray} (hu : c.P.underlying t = some .string) (ho : o.op = .call { callee := .builtin .len, args := #[x], argTypes := #[t] }) (hx : s.ev x = some (.s b)) : RP c o s (.i (b.size : Int)) := fun g a w hs => by
  refine ⟨.int .i64 b.size, .d _ _ (.p _), fun w' => exec_len ho ?_⟩
  rw [VRep.p_eq (hs.ev hx)]
  simp [Builtin.len_, run_underlying hu]
end
end Go.Proofs.Ythlcginebeapdaa
