/- The operations that make objects, write them, and let slices grow, as rules of the walk without worlds. -/
import Derived.Test.YthlcginebeapdaaAmO
import Derived.Laws.CopyRow
import Derived.Laws.MakeOwn
import Derived.Maps.AppendAt
namespace Go.Proofs.Ythlcginebeapdaa
open Go.RowKit
set_option linter.unusedSimpArgs false
set_option linter.unusedVariables false

/-- The cells of a value. -/
def V.cs : V → List V
  | .agg l => l
  | v => [v]
/-- A value of one cell. -/
def V.one : V → Bool
  | .d (.p x) => x.oneCell'
  | .d (.sl _ _ _) => true
  | .d (.mp _) => true
  | .d (.mm _) => true
  | .ad _ => true
  | .ref _ _ => true
  | .own _ _ _ _ => true
  | .que _ _ _ _ => true
  | .fn _ _ => true
  | .mp _ _ _ => true
  | .mq _ _ _ => true
  | .ifc _ _ => true
  | .mp2 _ _ _ _ _ _ => true
  | .it _ _ _ _ => true
  | .mit _ _ _ _ _ => true
  | .mm _ _ _ => true
  | _ => false
def V.ok : V → Bool
  | .agg l => l.all V.one
  | v => v.one

section
variable {c : Cx} {s : S} {o : Oper} {g : Nat → Nat × Nat} {a : Act} {w : World} {q : Nat → Prop}

theorem VRep.one {v : V} {x : Value} (h : VRep w q g v x) (ho : v.one = true) : x.oneCell' = true := by
  cases h with
  | d y _ h =>
    cases h with
    | p => exact ho
    | sl => rfl
    | mp => rfl
    | mm => rfl
  | ad => rfl
  | ref => rfl
  | own => rfl
  | ownNil => rfl
  | que => rfl
  | agg => simp [V.one] at ho
  | tup => simp [V.one] at ho
  | fn => rfl
  | mp => rfl
  | mq => rfl
  | ifc => rfl
  | mp2 => rfl
  | it => rfl
  | mit => rfl
  | mm => rfl
  | junk => simp [V.one] at ho
theorem cells_one {x : Value} (h : x.oneCell' = true) : x.cells = #[x] := by
  cases x <;> first | rfl | (simp [Value.oneCell'] at h)
theorem VRep.cells {v : V} {x : Value} (h : VRep w q g v x) (ho : v.ok = true) :
    ∃ cs : List Value, x.cells = cs.toArray ∧ v.cs.length = cs.length ∧ (∀ (j : Nat) (u : V) (y : Value), v.cs[j]? = some u → cs[j]? = some y → VRep w q g u y) ∧ ∀ y ∈ cs, y.oneCell' = true := by
  by_cases hv : v.one = true
  · have h1 := h.one hv
    refine ⟨[x], by rw [cells_one h1], ?_, ?_, by simpa using h1⟩
    · cases v <;> first | rfl | (simp [V.one] at hv)
    · intro j u y h2 h3
      have hc : v.cs = [v] := by cases v <;> first | rfl | (simp [V.one] at hv)
      rw [hc] at h2
      match j, h2, h3 with
      | 0, h2, h3 =>
        simp only [List.getElem?_cons_zero, Option.some.injEq] at h2 h3
        subst h2 h3
        exact h
      | n + 1, h2, _ => simp at h2
  · cases v with
    | agg l =>
      cases h with
      | agg _ cs hlen h =>
        refine ⟨cs, rfl, hlen, h, fun y hy => ?_⟩
        obtain ⟨j, hj⟩ := List.getElem?_of_mem hy
        have hjl : j < l.length := by rw [hlen]; exact (List.getElem?_eq_some_iff.1 hj).1
        have hall : (l.all V.one) = true := ho
        exact (h j l[j] y (List.getElem?_eq_getElem hjl) hj).one (List.all_eq_true.1 hall _ (List.getElem_mem hjl))
    | _ => exact absurd ho hv

theorem V.has_cs {r : Nat} {v : V} (h : v.has r = false) : V.hasL r v.cs = false := by
  cases v <;> simp_all [V.cs, V.hasL, V.has]
theorem S.ev_clean {r : Nat} (h : s.clean r = true) {x : Operand} {v : V} (hx : s.ev x = some v) : v.has r = false := by
  cases x with
  | tmp t => exact S.clean_tmp h hx
  | const y => simp only [S.ev, Option.some.injEq] at hx; subst hx; rfl
  | global => simp only [S.ev, Option.some.injEq] at hx; subst hx; rfl
  | func f => simp only [S.ev, Option.some.injEq] at hx; subst hx; rfl

/-- A state with a new object in it, which the operation's temporary points to. -/
def S.newObj (s : S) (r : Nat) (row : Row) (d : Option Tmp) (v : V) : S := { s with H := (r, row) :: s.H }.put d v

/-- One operation that makes one new object. -/
def StepG (c : Cx) (o : Oper) (s : S) (r : Nat) (N : S → Prop) : Prop := ∀ g a w, Sim c g s a w → ∀ (K : Act → World → Prop) (Q : Exit → Act → World → Prop),
  (∀ g' s' a' w', N s' → Sim c g' s' a' w' → Below w.heap.size w w' → (∀ k, k ≠ r → g' k = g k) → w.heap.size ≤ (g' r).1 → K a' w') → o.wp c.P a w K Q
theorem StepG.stepM {r : Nat} {N : S → Prop} (h : StepG c o s r N) : StepM c o s N := fun g a w hs K Q hK => h g a w hs K Q fun g' s' a' w' h1 h2 h3 _ _ => hK g' s' a' w' h1 h2 h3
theorem sm_newG {r cap : Nat} {row : Row} {v : V} (hr : s.clean r = true) (hnn : row.nil = false) (hrow : V.hasL r row.cells = false) (hd : dok s o = true)
    (h : ∀ g a w, Sim c g s a w → ∃ (cs : Array Value) (x : Value), (row.sz ≠ 0 → cs.size = cap * row.sz) ∧ (execOp a.eval o).run c.P w = .ok (.value x) (w.alloc (.cells cs row.ty)) ∧ (∀ (j : Nat) (u : V), row.cells[j]? = some u → ∃ y, cs[j]? = some y ∧ VRep w (qt c s.H g) g u y) ∧
      VRep (w.alloc (.cells cs row.ty)) (fun _ => True) (fun _ => (w.heap.size, cap)) v x) (hv : ∃ k, v = .ref r k ∨ ∃ sz n, v = .own r sz n false) : StepG c o s r (fun s' => s' = s.newObj r row o.dst v) := by
  intro g a w hs K Q hK
  obtain ⟨cs, x, h0, h1, h2, h3⟩ := h g a w hs
  obtain ⟨h4, h5⟩ := hs.new hr hnn hrow h0 h2
  unfold Oper.wp
  rw [h1]
  refine hK _ _ _ _ rfl (h4.put o.dst (dok_spec hd) ?_) ((Below.refl _ _).alloc (Nat.le_refl _) _) (fun k hk => by simp [hk]) (by simp)
  obtain ⟨k, rfl | ⟨sz, n, rfl⟩⟩ := hv
  · cases h3
    have := VRep.ref (w := w.alloc (.cells cs row.ty)) (q := qt c ((r, row) :: s.H) (fun k => if k = r then (w.heap.size, cap) else g k)) (g := fun k => if k = r then (w.heap.size, cap) else g k) r k
    simpa using this
  · cases h3 with
    | own _ _ _ hn hcap =>
      have := VRep.own (w := w.alloc (.cells cs row.ty)) (q := qt c ((r, row) :: s.H) (fun k => if k = r then (w.heap.size, cap) else g k)) (g := fun k => if k = r then (w.heap.size, cap) else g k) r sz n (by simpa using hn) (by simpa using hcap)
      simpa using this
theorem sm_new {r cap : Nat} {row : Row} {v : V} (hr : s.clean r = true) (hnn : row.nil = false) (hrow : V.hasL r row.cells = false) (hd : dok s o = true)
    (h : ∀ g a w, Sim c g s a w → ∃ (cs : Array Value) (x : Value), (row.sz ≠ 0 → cs.size = cap * row.sz) ∧ (execOp a.eval o).run c.P w = .ok (.value x) (w.alloc (.cells cs row.ty)) ∧ (∀ (j : Nat) (u : V), row.cells[j]? = some u → ∃ y, cs[j]? = some y ∧ VRep w (qt c s.H g) g u y) ∧
      VRep (w.alloc (.cells cs row.ty)) (fun _ => True) (fun _ => (w.heap.size, cap)) v x) (hv : ∃ k, v = .ref r k ∨ ∃ sz n, v = .own r sz n false) : StepM c o s (fun s' => s' = s.newObj r row o.dst v) := (sm_newG hr hnn hrow hd h hv).stepM

theorem sm_box (r : Nat) {e : TypeId} {x : Operand} {v : V} (ho : o.op = .box e x) (hx : s.ev x = some v) (hok : v.ok = true) (hr : s.clean r = true) (hd : dok s o = true) : StepM c o s (fun s' => s' = s.newObj r ⟨e, v.cs, false, 0⟩ o.dst (.ref r 0)) :=
  sm_new (cap := 0) hr rfl (V.has_cs (S.ev_clean hr hx)) hd (fun g a w hs => by
    obtain ⟨cs, h1, h2, h3, h4⟩ := (hs.ev hx).cells hok
    refine ⟨cs.toArray, .pointer (some ⟨w.heap.size, 0, none⟩), fun h => absurd rfl h, ?_, fun j u hu => ?_, .ref _ _⟩
    · simp [execOp, ho, Instr.box, newVar, newRow, h1]
    · have hj : j < cs.length := by rw [← h2]; exact (List.getElem?_eq_some_iff.1 hu).1
      exact ⟨cs[j], by simp [hj], h3 j u _ hu (List.getElem?_eq_getElem hj)⟩) ⟨0, .inl rfl⟩
theorem sm_alloc (r : Nat) {e : TypeId} {sz bt : Nat} {z : Value} (hi : Inf c.P e sz bt z) (ho : o.op = .alloc e) (hr : s.clean r = true) (hd : dok s o = true) {l : List V} (hl : z.cells.toList.map (fun y => V.d (.p y)) = l) : StepM c o s (fun s' => s' = s.newObj r ⟨e, l, false, 0⟩ o.dst (.ref r 0)) :=
  sm_new (cap := 0) hr rfl (by subst hl; simp [V.hasL_false, V.has]) hd (fun g a w hs => by
    subst hl
    refine ⟨z.cells, .pointer (some ⟨w.heap.size, 0, none⟩), fun h => absurd rfl h, ?_, fun j u hu => ?_, .ref _ _⟩
    · simp [execOp, ho, Instr.alloc, run_zeroValue hi, newVar, newRow]
    · simp only [List.getElem?_map] at hu
      cases hz : z.cells.toList[j]? with
      | none => rw [hz] at hu; cases hu
      | some y =>
        rw [hz] at hu
        simp only [Option.map_some, Option.some.injEq] at hu
        subst hu
        exact ⟨y, by simpa using hz, .d _ _ (.p _)⟩) ⟨0, .inl rfl⟩
/-- make, of a slice whose elements have one cell. -/
theorem sm_make1 (r : Nat) {t e : TypeId} {bt n : Nat} {z : Value} {x : Operand} {n' : Int} (hu : c.P.underlying t = some (.slice e)) (hi : Inf c.P e 1 bt z) (hz : z.oneCell' = true) (ho : o.op = .makeSlice t x x) (hx : s.ev x = some (.i n')) (hn : n' = (n : Int)) (hb : n ≤ 1000000) (hbt : bt ≤ 64) (hr : s.clean r = true) (hd : dok s o = true) :
    StepM c o s (fun s' => s' = s.newObj r ⟨e, List.replicate n (.d (.p z)), false, 1⟩ o.dst (.own r 1 n false)) :=
  sm_new (cap := n) hr rfl (by simp [V.hasL_false, V.has]) hd (fun g a w hs => by
    subst hn
    obtain ⟨i, hi1, hi2, hi3, hi4⟩ := hi.out
    have hmul : (i.bytes : Int) * (n : Int) ≤ 281474976710656 := by
      rw [hi3]
      have : (bt : Int) * (n : Int) ≤ 64 * (n : Int) := Int.mul_le_mul_of_nonneg_right (by omega) (by omega)
      omega
    have hrun := run_make (P := c.P) w t e i z hu hi1 hi4 .i64 .i64 n n (by omega) (by omega) hmul (by omega)
    have hc : z.cells = #[z] := cells_one hz
    have hm : madeCells #[z] (n * 1) = (List.replicate n z).toArray := by
      apply Array.ext
      · simp [madeCells]
      · intro j h1 h2; simp [madeCells, Nat.mod_one]
    simp only [Int.toNat_natCast, hi2, hc, hm] at hrun
    refine ⟨(List.replicate n z).toArray, .slice (some ⟨w.heap.size, 0, none⟩) n n, by simp, ?_, fun j u hu => ?_, ?_⟩
    · simp [execOp, ho, VRep.p_eq (hs.ev hx), hrun]
    · have hj : j < n := by simpa using (List.getElem?_eq_some_iff.1 hu).1
      simp only [List.getElem?_replicate, hj, if_true, Option.some.injEq] at hu
      subst hu
      exact ⟨z, by simp [hj], .d _ _ (.p _)⟩
    · exact VRep.own (g := fun _ => (w.heap.size, n)) _ _ _ (Nat.le_refl _) (by simp only [maxLen]; omega)) ⟨0, .inr ⟨_, _, rfl⟩⟩

/-- A struct of parts. -/
def Places (P : Program) (t : TypeId) (pl : List (Nat × Nat)) : Prop := ∃ fields, P.underlying t = some (.struct fields) ∧ fields.toList.mapM (fun f => (P.info? f.type).map fun i => (f.offset, i.size)) = some pl
def setL (cs : List V) (k : Nat) (l : List V) : List V := cs.take k ++ l ++ cs.drop (k + l.length)
def fillV (place : Nat → Option (Nat × Nat)) : List V → List (Nat × V) → Option (List V)
  | cs, [] => some cs
  | cs, (i, v) :: r =>
    match place i with
    | none => none
    | some (off, size) => if v.cs.length = size ∧ off + size ≤ cs.length ∧ v.ok = true then fillV place (setL cs off v.cs) r else none

theorem setL_get {cs l : List V} {k : Nat} (h : k + l.length ≤ cs.length) (j : Nat) : (setL cs k l)[j]? = if k ≤ j ∧ j < k + l.length then l[j - k]? else cs[j]? := by
  unfold setL
  by_cases h1 : j < k
  · rw [if_neg (by omega), List.append_assoc, List.getElem?_append_left (by simp; omega), List.getElem?_take_of_lt h1]
  · by_cases h2 : j < k + l.length
    · rw [if_pos (by omega), List.append_assoc, List.getElem?_append_right (by simp; omega), List.getElem?_append_left (by simp; omega)]
      congr 1
      simp; omega
    · rw [if_neg (by omega), List.append_assoc, List.getElem?_append_right (by simp; omega), List.getElem?_append_right (by simp; omega), List.getElem?_drop]
      congr 1
      simp; omega
theorem setL_len {cs l : List V} {k : Nat} (h : k + l.length ≤ cs.length) : (setL cs k l).length = cs.length := by simp [setL]; omega
theorem fold_set : ∀ (l : List Value) (cs : Array Value) (k n : Nat), (l.zipIdx n).foldl (fun cs (x : Value × Nat) => cs.setIfInBounds (k + x.2) x.1) cs = (l.zipIdx 0).foldl (fun cs (x : Value × Nat) => cs.setIfInBounds (k + n + x.2) x.1) cs := by
  intro l
  induction l with
  | nil => intros; rfl
  | cons y l ih =>
    intro cs k n
    simp only [List.zipIdx_cons, List.foldl_cons, Nat.add_zero]
    rw [ih _ k (n + 1), ih _ (k + n) (0 + 1)]
    simp [Nat.add_assoc, Nat.add_comm, Nat.add_left_comm]
theorem fold_get : ∀ (l : List Value) (cs : Array Value) (k j : Nat), k + l.length ≤ cs.size →
    ((l.zipIdx 0).foldl (fun cs (x : Value × Nat) => cs.setIfInBounds (k + x.2) x.1) cs)[j]? = (if k ≤ j ∧ j < k + l.length then l[j - k]? else cs[j]?) ∧
    ((l.zipIdx 0).foldl (fun cs (x : Value × Nat) => cs.setIfInBounds (k + x.2) x.1) cs).size = cs.size := by
  intro l
  induction l with
  | nil => intro cs k j h; simp; intros; omega
  | cons y l ih =>
    intro cs k j h
    simp only [List.length_cons] at h
    simp only [List.zipIdx_cons, List.foldl_cons, Nat.add_zero]
    rw [fold_set]
    have hh := ih (cs.setIfInBounds k y) (k + 1) j (by simp; omega)
    simp only [Nat.zero_add] at hh ⊢
    refine ⟨?_, by simpa using hh.2⟩
    rw [hh.1]
    by_cases h1 : k + 1 ≤ j ∧ j < k + 1 + l.length
    · rw [if_pos h1, if_pos (by simp; omega)]
      obtain ⟨m, rfl⟩ : ∃ m, j = k + 1 + m := ⟨j - (k + 1), by omega⟩
      rw [show k + 1 + m - k = m + 1 by omega, show k + 1 + m - (k + 1) = m by omega]
      simp
    · rw [if_neg h1]
      by_cases h2 : j = k
      · subst h2
        have hjs : j < cs.size := by omega
        rw [if_pos (by simp)]
        simp [hjs]
      · rw [if_neg (by simp; omega), Array.getElem?_setIfInBounds_ne (by omega)]

theorem fill_rep {place : Nat → Option (Nat × Nat)} : ∀ (vs : List (Nat × V)) (xs : List (Nat × Value)) (cs : List V) (arr : Array Value) (out : List V),
    fillV place cs vs = some out → vs.length = xs.length → (∀ (j : Nat) (u : Nat × V) (y : Nat × Value), vs[j]? = some u → xs[j]? = some y → u.1 = y.1 ∧ VRep w q g u.2 y.2) →
    cs.length = arr.size → (∀ (j : Nat) (u : V) (y : Value), cs[j]? = some u → arr[j]? = some y → VRep w q g u y) →
    ∃ arr', Instr.fill place arr xs = some arr' ∧ out.length = arr'.size ∧ ∀ (j : Nat) (u : V) (y : Value), out[j]? = some u → arr'[j]? = some y → VRep w q g u y := by
  intro vs
  induction vs with
  | nil =>
    intro xs cs arr out hf hl hr hs ha
    obtain rfl : xs = [] := by cases xs with | nil => rfl | cons => simp at hl
    simp only [fillV, Option.some.injEq] at hf
    subst hf
    exact ⟨arr, rfl, hs, ha⟩
  | cons v vs ih =>
    intro xs cs arr out hf hl hr hs ha
    obtain ⟨i, v⟩ := v
    cases xs with
    | nil => simp at hl
    | cons x xs =>
      obtain ⟨i', x⟩ := x
      obtain ⟨he, hv⟩ := hr 0 (i, v) (i', x) rfl rfl
      simp only at he hv
      subst he
      simp only [fillV] at hf
      cases hp : place i with
      | none => rw [hp] at hf; cases hf
      | some os =>
        obtain ⟨off, size⟩ := os
        rw [hp] at hf
        simp only at hf
        split at hf
        · rename_i hh
          obtain ⟨h1, h2, h3⟩ := hh
          obtain ⟨cells, c1, c2, c3, c4⟩ := hv.cells h3
          have hsz : x.cells.size = size := by rw [c1]; simp; omega
          have hfold := fun j => fold_get cells arr off j (by omega)
          obtain ⟨arr', g1, g2, g3⟩ := ih xs (setL cs off v.cs) ((cells.zipIdx 0).foldl (fun cs (x : Value × Nat) => cs.setIfInBounds (off + x.2) x.1) arr) out hf (by simpa using hl)
            (fun j u y hu hy => hr (j + 1) u y hu hy) (by rw [setL_len (by omega), (hfold 0).2]; exact hs) (by
              intro j u y hu hy
              rw [setL_get (by omega)] at hu
              rw [(hfold j).1] at hy
              by_cases hj : off ≤ j ∧ j < off + v.cs.length
              · rw [if_pos hj] at hu
                rw [if_pos (by omega)] at hy
                exact c3 _ u y hu hy
              · rw [if_neg hj] at hu
                rw [if_neg (by omega)] at hy
                exact ha j u y hu hy)
          refine ⟨arr', ?_, g2, g3⟩
          simp only [Instr.fill, hp]
          rw [if_neg (by simp; omega)]
          rw [← g1]
          congr 1
          rw [c1]
          simp [← Array.foldl_toList]
        · cases hf

theorem parts_rep {ps : List (Nat × Operand)} {vs : List (Nat × V)} (hs : Sim c g s a w) (h : ps.map (fun x => (x.1, s.ev x.2)) = vs.map (fun x => (x.1, some x.2))) :
    vs.length = (ps.map fun x => (x.1, a.eval x.2)).length ∧ ∀ (j : Nat) (u : Nat × V) (y : Nat × Value), vs[j]? = some u → (ps.map fun x => (x.1, a.eval x.2))[j]? = some y → u.1 = y.1 ∧ VRep w (qt c s.H g) g u.2 y.2 := by
  refine ⟨by simpa using (congrArg List.length h).symm, fun j u y hu hy => ?_⟩
  have h1 := congrArg (fun l => l[j]?) h
  simp only [List.getElem?_map, hu, Option.map_some] at h1 hy
  cases h2 : ps[j]? with
  | none => rw [h2] at h1; cases h1
  | some p =>
    rw [h2] at h1 hy
    simp only [Option.map_some, Option.some.injEq, Prod.mk.injEq] at h1 hy
    subst hy
    exact ⟨h1.1.symm, hs.ev h1.2⟩

theorem zero_rep (z : Value) : ∀ (j : Nat) (u : V) (y : Value), (z.cells.toList.map (fun y => V.d (.p y)))[j]? = some u → z.cells[j]? = some y → VRep w q g u y := by
  intro j u y hu hy
  rw [List.getElem?_map] at hu
  have : z.cells.toList[j]? = some y := by simpa using hy
  rw [this] at hu
  simp only [Option.map_some, Option.some.injEq] at hu
  subst hu
  exact .d _ _ (.p _)

theorem rp_build {t : TypeId} {ps : Array (Nat × Operand)} {pl : List (Nat × Nat)} {sz bt : Nat} {z : Value} {vs : List (Nat × V)} {zs l : List V} (hp : Places c.P t pl) (hi : Inf c.P t sz bt z) (ho : o.op = .build t ps)
    (hv : ps.toList.map (fun x => (x.1, s.ev x.2)) = vs.map (fun x => (x.1, some x.2))) (hzs : z.cells.toList.map (fun y => V.d (.p y)) = zs) (hf : fillV (fun i => pl[i]?) zs vs = some l) : RP c o s (.agg l) := fun g a w hs => by
  subst hzs
  obtain ⟨h1, h2⟩ := parts_rep hs hv
  obtain ⟨arr, h3, h4, h5⟩ := fill_rep (w := w) (q := qt c s.H g) (g := g) (place := fun i => pl[i]?) vs (ps.toList.map fun x => (x.1, a.eval x.2)) _ z.cells l hf h1 h2 (by simp) (zero_rep z)
  refine ⟨.agg arr, ?_, fun w' => ?_⟩
  · have := VRep.agg (w := w) (q := qt c s.H g) (g := g) l arr.toList (by simpa using h4) (fun j u y hu hy => h5 j u y hu (by simpa using hy))
    simpa using this
  · obtain ⟨fields, hu, hm⟩ := hp
    obtain ⟨i, hi1, hi2, hi3, hi4⟩ := hi.out
    have hb : c.P.built t (ps.map fun (i, x) => (i, a.eval x)).toList = some arr := by
      simp only [Program.built, hi1, hu, hi4, hm]
      rw [← h3]
      simp
    simp only [execOp, ho, Sem.run_bind, run_build w' t _ arr hb, Result.andThen_ok]
    rfl

/-- A slice literal. -/
theorem sm_sliceG (r : Nat) {t e : TypeId} {ps : Array (Nat × Operand)} {sz bt n : Nat} {z : Value} {vs : List (Nat × V)} {zs l : List V} (hu : c.P.underlying t = some (.slice e)) (hi : Inf c.P e sz bt z) (ho : o.op = .buildSlice t n ps)
    (hzs : z.cells.size = sz) (hn : 0 < n * sz) (hn2 : n * sz ≤ 1000000) (hn3 : n ≤ 1000000)
    (hv : ps.toList.map (fun x => (x.1, s.ev x.2)) = vs.map (fun x => (x.1, some x.2))) (hzl : (List.range (n * sz)).map (fun j => V.d (.p z.cells[j % z.cells.size]!)) = zs) (hf : fillV (fun i => some (i * sz, sz)) zs vs = some l) (hl : l.length = n * sz)
    (hr : s.clean r = true) (hrl : V.hasL r l = false) (hd : dok s o = true) : StepG c o s r (fun s' => s' = s.newObj r ⟨e, l, false, sz⟩ o.dst (.own r sz n false)) :=
  sm_newG (cap := n) hr rfl hrl hd (fun g a w hs => by
    subst hzl
    obtain ⟨h1, h2⟩ := parts_rep hs hv
    obtain ⟨arr, h3, h4, h5⟩ := fill_rep (w := w) (q := qt c s.H g) (g := g) (place := fun i => some (i * sz, sz)) vs (ps.toList.map fun x => (x.1, a.eval x.2)) _ ((Array.range (n * sz)).map (z.cells[· % z.cells.size]!)) l hf h1 h2 (by simp) (by
      intro j u y hu hy
      rw [List.getElem?_map] at hu
      simp only [Array.getElem?_map] at hy
      by_cases hj : j < n * sz
      · rw [List.getElem?_range hj] at hu
        simp [hj] at hy hu
        subst hu hy
        exact .d _ _ (.p _)
      · rw [List.getElem?_eq_none (by simpa using hj)] at hu
        cases hu)
    refine ⟨arr, .slice (some ⟨w.heap.size, 0, none⟩) n n, fun _ => by simp only; omega, ?_, fun j u hu => ?_, ?_⟩
    · have : ¬ (n * sz > 2 ^ 24) := by omega
      have h0 : ¬ (n * sz = 0) := by omega
      simp [execOp, ho, Instr.buildSlice, run_underlying hu, run_sizeOf hi, h0, run_zeroValue hi, newRow]
      rw [if_neg (by omega)]
      simp [h3]
    · have hj : j < arr.size := by rw [← h4]; exact (List.getElem?_eq_some_iff.1 hu).1
      exact ⟨arr[j], Array.getElem?_eq_getElem hj, h5 j u _ hu (Array.getElem?_eq_getElem hj)⟩
    · exact VRep.own (g := fun _ => (w.heap.size, n)) _ _ _ (Nat.le_refl _) (by simp only [maxLen]; omega)) ⟨0, .inr ⟨_, _, rfl⟩⟩
theorem sm_slice (r : Nat) {t e : TypeId} {ps : Array (Nat × Operand)} {sz bt n : Nat} {z : Value} {vs : List (Nat × V)} {zs l : List V} (hu : c.P.underlying t = some (.slice e)) (hi : Inf c.P e sz bt z) (ho : o.op = .buildSlice t n ps)
    (hzs : z.cells.size = sz) (hn : 0 < n * sz) (hn2 : n * sz ≤ 1000000) (hn3 : n ≤ 1000000)
    (hv : ps.toList.map (fun x => (x.1, s.ev x.2)) = vs.map (fun x => (x.1, some x.2))) (hzl : (List.range (n * sz)).map (fun j => V.d (.p z.cells[j % z.cells.size]!)) = zs) (hf : fillV (fun i => some (i * sz, sz)) zs vs = some l) (hl : l.length = n * sz)
    (hr : s.clean r = true) (hrl : V.hasL r l = false) (hd : dok s o = true) : StepM c o s (fun s' => s' = s.newObj r ⟨e, l, false, sz⟩ o.dst (.own r sz n false)) := (sm_sliceG r hu hi ho hzs hn hn2 hn3 hv hzl hf hl hr hrl hd).stepM
end
end Go.Proofs.Ythlcginebeapdaa
