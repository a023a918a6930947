/- Calls of function values, and calls that may read the caller's own objects. -/
import Derived.Test.YthlcginebeapdaaAmB
namespace Go.Proofs.Ythlcginebeapdaa
open Go.RowKit
set_option linter.unusedSimpArgs false
set_option linter.unusedVariables false

/-- A value as a callee sees it that only reads. -/
inductive Ro (s : S) : V → V → Prop
  | refl (v : V) (hv : v.pure) : Ro s v v
  | ref (r k : Nat) (row : Row) (l : List D) (hr : fnd s.H r = some row) (hn : row.nil = false) (hl : row.cells.drop k = l.map V.d) : Ro s (.ref r k) (.ad l)
  | own (r sz n bt : Nat) (f : Bool) (row : Row) (rows : List (List D)) (hr : fnd s.H r = some row) (hf : row.nil = f) (hlen : rows.length = n) (hn : n * bt ≤ 140737488355328)
      (hrows : ∀ (i j : Nat) (l : List D) (u : D), rows[i]? = some l → l[j]? = some u → row.cells[i * sz + j]? = some (.d u)) : Ro s (.own r sz n f) (.d (.sl sz bt rows))
  | fn (f : FuncId) (us vs : List V) (hl : us.length = vs.length) (h : ∀ (j : Nat) (u v : V), us[j]? = some u → vs[j]? = some v → Ro s u v) : Ro s (.fn f us) (.fn f vs)
inductive Ros (s : S) : List V → List V → Prop
  | nil : Ros s [] []
  | cons {u v : V} {us vs : List V} (h : Ro s u v) (hs : Ros s us vs) : Ros s (u :: us) (v :: vs)
theorem Ros.get {s : S} {us vs : List V} (h : Ros s us vs) : us.length = vs.length ∧ ∀ (j : Nat) (u v : V), us[j]? = some u → vs[j]? = some v → Ro s u v := by
  induction h with
  | nil => exact ⟨rfl, by simp⟩
  | cons h hs ih =>
    refine ⟨by simp [ih.1], fun j u v hu hv => ?_⟩
    cases j with
    | zero => simp at hu hv; subst hu hv; exact h
    | succ j => exact ih.2 j u v (by simpa using hu) (by simpa using hv)
theorem Ro.fns {s : S} {f : FuncId} {us vs : List V} (h : Ros s us vs) : Ro s (.fn f us) (.fn f vs) := .fn f us vs h.get.1 h.get.2

/-- A value that hangs on no memory. -/
def V.plain : V → Prop
  | .d (.p _) => True
  | .tup l => ∀ v ∈ l, ∃ x, v = .d (.p x)
  | .agg l => ∀ v ∈ l, ∃ x, v = .d (.p x)
  | _ => False

section
variable {c : Cx} {s : S} {o : Oper} {g : Nat → Nat × Nat} {a : Act} {w : World}

theorem Ro.rep (hs : Sim c g s a w) {u v : V} (h : Ro s u v) : ∀ {x : Value}, VRep w (qt c s.H g) g u x → VRep w (fun b => ¬ c.out b) g v x := by
  have hq : ∀ b, qt c s.H g b → b < w.heap.size → ¬ c.out b := fun b hb _ => hb.1
  have hm : ∀ {v x}, VRep w (qt c s.H g) g v x → VRep w (fun b => ¬ c.out b) g v x := fun hv => hv.mono Cells.rfl hq (fun _ _ => rfl)
  have hob : ∀ r row, fnd s.H r = some row → row.nil = false → ¬ c.out (g r).1 := fun r row hr hn h => by
    have h1 := hs.low _ h
    have h2 := hs.base r row hr hn
    omega
  induction h with
  | refl v hv => intro x hx; exact hm hx
  | ref r k row l hr hn hl =>
    intro x hx
    cases hx
    obtain ⟨arr, h1, _, h2⟩ := hs.obj r row hr hn
    have hat : ∀ (j : Nat) (u : D), l[j]? = some u → row.cells[k + j]? = some (.d u) := by
      intro j u hu
      have : (row.cells.drop k)[j]? = some (.d u) := by rw [hl]; simp [hu]
      simpa using this
    refine .ad l (g r).1 k (fun j => arr.getD (k + j) undef) ⟨hob r row hr hn, (Array.getElem?_eq_some_iff.1 h1).1⟩ (fun j u hu => ?_) (fun j u hu => ?_)
    · obtain ⟨y, h3, _⟩ := h2 _ _ (hat j u hu)
      rw [cell_of_row w _ _ _ _ _ h1, h3]
      simp [Array.getD_eq_getD_getElem?, h3]
    · obtain ⟨y, h3, h4⟩ := h2 _ _ (hat j u hu)
      cases hm h4 with
      | d _ _ h5 => simpa [Array.getD_eq_getD_getElem?, h3] using h5
  | own r sz n bt f row rows hr hf hlen hn hrows =>
    intro x hx
    refine .d _ _ ?_
    cases hx with
    | own _ _ _ hle hcap =>
      obtain ⟨arr, h1, _, h2⟩ := hs.obj r row hr hf
      subst hlen
      refine .sl sz bt rows _ _ (g r).1 0 (fun i j => arr.getD (i * sz + j) undef) (by omega) (fun _ => ⟨rfl, hob r row hr hf, (Array.getElem?_eq_some_iff.1 h1).1⟩) hn ?_ ?_
      · intro i j l u hi hj
        obtain ⟨y, h3, _⟩ := h2 _ _ (hrows i j l u hi hj)
        rw [Nat.zero_add, cell_of_row w _ _ _ _ _ h1, h3]
        simp [Array.getD_eq_getD_getElem?, h3]
      · intro i j l u hi hj
        obtain ⟨y, h3, h4⟩ := h2 _ _ (hrows i j l u hi hj)
        cases hm h4 with
        | d _ _ h5 => simpa [Array.getD_eq_getD_getElem?, h3] using h5
    | ownNil =>
      have : rows = [] := by simpa using hlen
      subst this
      exact .sl sz bt [] none 0 0 0 (fun _ _ => undef) (Nat.le_refl 0) (fun h => absurd rfl h) (by simp) (by simp) (by simp)
  | fn f us vs hl h ih =>
    intro x hx
    cases hx with
    | fn _ _ cs hlen hh =>
      refine .fn f vs cs (by omega) fun j v y hv hy => ?_
      have hj : j < us.length := by rw [hl]; exact (List.getElem?_eq_some_iff.1 hv).1
      exact ih j us[j] v (List.getElem?_eq_getElem hj) hv (hh j us[j] y (List.getElem?_eq_getElem hj) hy)

theorem fn_eval (hs : Sim c g s a w) {fx : Operand} {f : FuncId} {caps : List V} (hfx : s.ev fx = some (.fn f caps)) : ∃ cs : List Value, a.eval fx = .func (.func f) #[] cs.toArray ∧ caps.length = cs.length ∧ ∀ (j : Nat) (u : V) (y : Value), caps[j]? = some u → cs[j]? = some y → VRep w (qt c s.H g) g u y := by
  have hfv := hs.ev hfx
  generalize a.eval fx = u at hfv
  cases hfv with
  | fn _ _ cs hl h => exact ⟨cs, rfl, hl, h⟩
theorem args_eval (hs : Sim c g s a w) {xs : Array Operand} {ars : List V} (hargs : xs.toList.map s.ev = ars.map some) : ars.length = (xs.toList.map a.eval).length ∧ ∀ (j : Nat) (u : V) (y : Value), ars[j]? = some u → (xs.toList.map a.eval)[j]? = some y → VRep w (qt c s.H g) g u y := by
  refine ⟨by simpa using (congrArg List.length hargs).symm, fun j u y hu hy => ?_⟩
  have h1 := congrArg (fun l => l[j]?) hargs
  simp only [List.getElem?_map, hu, Option.map_some] at h1 hy
  cases h2 : xs.toList[j]? with
  | none => rw [h2] at h1; cases h1
  | some p =>
    rw [h2] at h1 hy
    simp only [Option.map_some, Option.some.injEq] at h1 hy
    subst hy
    exact hs.ev h1

/-- A call, of a function or of a closure, that changes nothing and answers something plain; it may read the caller's objects. -/
theorem sm_callr {fx : Operand} {xs : Array Operand} {ts : Array TypeId} {f : FuncId} {fn : Func} {code : Code} {n : Nat} {rs : List ResultVar} {us caps args : List V} {post : V → Prop} (hfn : Fn c.P f args post) (hpl : ∀ v, post v → v.plain) (hf : Is c.P f fn code n rs) (ho : o.op = .call { callee := .value fx, args := xs, argTypes := ts })
    (hfx : s.ev fx = some (.fn f caps)) (hargs : xs.toList.map s.ev = us.map some) (hro : Ros s (us ++ caps) args) (hd : dok s o = true) : StepM c o s (fun s' => ∃ v, post v ∧ v.pure ∧ s' = s.put o.dst v) := by
  intro g a w hs K Q hK
  obtain ⟨cs, hfx', hcl, hcr⟩ := fn_eval hs hfx
  obtain ⟨hal, har⟩ := args_eval hs hargs
  obtain ⟨hrl, hrr⟩ := hro.get
  have hx : VReps w (fun b => ¬ c.out b) g args ((xs.toList.map a.eval) ++ cs) := by
    refine ⟨by rw [← hrl]; simp at hal ⊢; omega, fun j v y hv hy => ?_⟩
    have hj : j < (us ++ caps).length := by rw [hrl]; exact (List.getElem?_eq_some_iff.1 hv).1
    have hu := List.getElem?_eq_getElem hj
    refine (hrr j _ v hu hv).rep hs ?_
    by_cases h1 : j < us.length
    · rw [List.getElem?_append_left h1] at hu
      rw [List.getElem?_append_left (by omega)] at hy
      exact har j _ y hu hy
    · rw [List.getElem?_append_right (by omega)] at hu
      rw [List.getElem?_append_right (by omega), ← hal] at hy
      exact hcr _ _ y hu hy
  unfold Oper.wp
  rw [exec_call (caps := cs) hf ho hfx']
  simp only [Oper.upon]
  refine (hfn w c.out g _ (fun b h => Nat.lt_of_lt_of_le (hs.low b h) hs.below.size) hx).mono ?_
  rintro e w' ⟨v, x, rfl, h1, h2, h3, h4⟩
  refine hK g _ _ _ ⟨v, h1, h2, rfl⟩ ((hs.move h4).put o.dst (dok_spec hd) ?_) h4
  have hp := hpl v h1
  have hdp : ∀ {y z}, VRep w' (fun b => ¬ c.out b) g (.d (.p y)) z → VRep w' (qt c s.H g) g (.d (.p y)) z := fun h => by
    rw [VRep.p_eq h]; exact .d _ _ (.p _)
  cases v with
  | d dx =>
    cases dx with
    | p => exact hdp h3
    | sl => exact hp.elim
    | mp => exact hp.elim
    | mm => exact hp.elim
  | tup l =>
    cases h3 with
    | tup _ cs' hl hh =>
      refine .tup l cs' hl fun j u z hu hz => ?_
      obtain ⟨y, rfl⟩ := hp u (List.mem_of_getElem? hu)
      exact hdp (hh j _ z hu hz)
  | agg l =>
    cases h3 with
    | agg _ cs' hl hh =>
      refine .agg l cs' hl fun j u z hu hz => ?_
      obtain ⟨y, rfl⟩ := hp u (List.mem_of_getElem? hu)
      exact hdp (hh j _ z hu hz)
  | _ => exact hp.elim
/-- A call of a function value whose captured values are plain. -/
theorem sm_callv {fx : Operand} {xs : Array Operand} {ts : Array TypeId} {f : FuncId} {fn : Func} {code : Code} {n : Nat} {rs : List ResultVar} {args caps : List V} {post : V → Prop} (hfn : Fn c.P f (args ++ caps) post) (hf : Is c.P f fn code n rs) (ho : o.op = .call { callee := .value fx, args := xs, argTypes := ts })
    (hfx : s.ev fx = some (.fn f caps)) (hargs : xs.toList.map s.ev = args.map some) (hd : dok s o = true) : StepM c o s (fun s' => ∃ v, post v ∧ v.pure ∧ s' = s.put o.dst v) := by
  intro g a w hs K Q hK
  obtain ⟨cs, hfx', hcl, hcr⟩ := fn_eval hs hfx
  obtain ⟨hal, har⟩ := args_eval hs hargs
  have hx : VReps w (fun b => ¬ ¬ qt c s.H g b) g (args ++ caps) ((xs.toList.map a.eval) ++ cs) := by
    refine ⟨by simp at hal ⊢; omega, fun j u y hu hy => ?_⟩
    have hm : ∀ {v x}, VRep w (qt c s.H g) g v x → VRep w (fun b => ¬ ¬ qt c s.H g b) g v x := fun hv => hv.mono Cells.rfl (fun b hb _ => not_not_intro hb) (fun _ _ => rfl)
    refine hm ?_
    by_cases h1 : j < args.length
    · rw [List.getElem?_append_left h1] at hu
      rw [List.getElem?_append_left (by omega)] at hy
      exact har j _ y hu hy
    · rw [List.getElem?_append_right (by omega)] at hu
      rw [List.getElem?_append_right (by omega), ← hal] at hy
      exact hcr _ _ y hu hy
  unfold Oper.wp
  rw [exec_call (caps := cs) hf ho hfx']
  simp only [Oper.upon]
  refine (hfn w (fun b => ¬ qt c s.H g b) g _ ?_ hx).mono ?_
  · intro b hb
    rcases Classical.em (c.out b) with h | h
    · exact Nat.lt_of_lt_of_le (hs.low b h) hs.below.size
    · rcases Classical.em (∃ r row, fnd s.H r = some row ∧ row.nil = false ∧ (g r).1 = b) with ⟨r, row, h1, h2, rfl⟩ | h'
      · obtain ⟨arr, h3, _⟩ := hs.obj r row h1 h2
        exact (Array.getElem?_eq_some_iff.1 h3).1
      · exact absurd ⟨h, fun r row h1 h2 h3 => h' ⟨r, row, h1, h2, h3⟩⟩ hb
  · rintro e w' ⟨v, x, rfl, h1, h2, h3, h4⟩
    refine hK g _ _ _ ⟨v, h1, h2, rfl⟩ ((hs.move h4).put o.dst (dok_spec hd) ?_) h4
    exact h3.mono Cells.rfl (fun b hb _ => Classical.not_not.1 hb) (fun r _ => rfl)
end
end Go.Proofs.Ythlcginebeapdaa
