/- Calls and functions, in the walk without worlds. -/
import Derived.Test.YthlcginebeapdaaAmS
namespace Go.Proofs.Ythlcginebeapdaa
open Go.RowKit
set_option linter.unusedSimpArgs false
set_option linter.unusedVariables false

/-- A value that speaks of no object. -/
def V.pure (v : V) : Prop := ∀ r, v.has r = false
def VReps (w : World) (q : Nat → Prop) (g : Nat → Nat × Nat) (vs : List V) (xs : List Value) : Prop := vs.length = xs.length ∧ ∀ (j : Nat) (u : V) (x : Value), vs[j]? = some u → xs[j]? = some x → VRep w q g u x

/-- What a function does that changes nothing of what was there: from arguments to a result of which post holds. -/
def Fn (P : Program) (f : FuncId) (args : List V) (post : V → Prop) : Prop := ∀ (w : World) (out : Nat → Prop) (g : Nat → Nat × Nat) (xs : List Value), (∀ b, out b → b < w.heap.size) → VReps w (fun b => ¬ out b) g args xs →
  Calls P f xs.toArray w fun e w' => ∃ v x, e = .returned x ∧ post v ∧ v.pure ∧ VRep w' (fun b => ¬ out b) g v x ∧ Below w.heap.size w w'

theorem Fn.mono {P : Program} {f : FuncId} {args : List V} {post post' : V → Prop} (h : Fn P f args post) (hp : ∀ v, post v → post' v) : Fn P f args post' := fun w out g xs h1 h2 =>
  (h w out g xs h1 h2).mono fun e w' ⟨v, x, h3, h4, h5⟩ => ⟨v, x, h3, hp v h4, h5⟩

/-- How a function stands in the program. -/
structure Is (P : Program) (f : FuncId) (fn : Func) (code : Code) (n : Nat) (rs : List ResultVar) : Prop where
  func : P.funcs[f]? = some fn
  name : (fn.name == "runtime.NumGoroutine") = false
  body : fn.body = some code
  ntmps : fn.ntmps = n
  results : fn.results = rs.toArray

def resOne (P : Program) (s : S) (r : ResultVar) (v : V) : Prop :=
  match r with
  | .tmp t => fnd s.T t = some v
  | .cell a ty => ∃ r k row d, fnd s.T a = some (.ref r k) ∧ fnd s.H r = some row ∧ row.nil = false ∧ P.underlying ty = some d ∧
      (isAggD d = false ∧ row.cells[k]? = some v ∨ isAggD d = true ∧ ∃ sz bt z l, Inf P ty sz bt z ∧ (row.cells.drop k).take sz = l ∧ l.length = sz ∧ v = .agg l)
def resL (P : Program) (s : S) : List ResultVar → List V → Prop
  | [], [] => True
  | r :: rs, v :: vs => resOne P s r v ∧ resL P s rs vs
  | _, _ => False
def tupOf : List V → V
  | [v] => v
  | vs => .tup vs

def QF (P : Program) (rs : List ResultVar) (post : V → Prop) : Exit → S → Prop
  | .normal, s => ∃ vs, resL P s rs vs ∧ post (tupOf vs) ∧ (tupOf vs).pure
  | .ret, s => ∃ vs, resL P s rs vs ∧ post (tupOf vs) ∧ (tupOf vs).pure
  | _, _ => False

def enum : Nat → List V → List (Nat × V)
  | _, [] => []
  | n, v :: vs => (n, v) :: enum (n + 1) vs
theorem fnd_enum : ∀ (l : List V) (n i : Nat) (v : V), fnd (enum n l) i = some v → n ≤ i ∧ l[i - n]? = some v
  | [], n, i, v, h => by simp [enum, fnd] at h
  | u :: l, n, i, v, h => by
    simp only [enum, fnd] at h
    split at h
    · rename_i e
      simp only [beq_iff_eq] at e
      subst e
      simp only [Option.some.injEq] at h
      subst h
      simp
    · rename_i e
      simp only [beq_iff_eq] at e
      obtain ⟨h1, h2⟩ := fnd_enum l (n + 1) i v h
      refine ⟨by omega, ?_⟩
      obtain ⟨m, rfl⟩ : ∃ m, i = n + 1 + m := ⟨i - (n + 1), by omega⟩
      rw [show n + 1 + m - n = m + 1 by omega]
      rw [show n + 1 + m - (n + 1) = m by omega] at h2
      simpa using h2

section
variable {c : Cx} {s : S} {o : Oper} {g : Nat → Nat × Nat} {a : Act} {w : World}

theorem VRep.repure {v : V} {x : Value} {q : Nat → Prop} {g' : Nat → Nat × Nat} (h : VRep w q g v x) (hv : v.pure) : VRep w q g' v x :=
  h.mono Cells.rfl (fun _ h _ => h) (fun r hr => by rw [hv r] at hr; cases hr)

def resSem (tmps : Array Value) : ResultVar → Sem Value
  | .tmp t => Pure.pure (tmps.getD t undef)
  | .cell p t => do loadVar t (← asAddr (tmps.getD p undef))
theorem run_resOne (hs : Sim c g s a w) {r : ResultVar} {v : V} (h : resOne c.P s r v) :
    ∃ x, VRep w (qt c s.H g) g v x ∧ (resSem a.tmps r).run c.P w = .ok x w := by
  cases r with
  | tmp t =>
    simp only [resOne] at h
    obtain ⟨x, h1, h2⟩ := hs.tmp t v h
    refine ⟨x, h2, ?_⟩
    simp [resSem, Array.getD_eq_getD_getElem?, h1]
  | cell p ty =>
    simp only [resOne] at h
    obtain ⟨r, k, row, d, h1, h2, hn, hu, h3⟩ := h
    obtain ⟨y, h4, h5⟩ := hs.tmp p _ h1
    cases h5
    have hp : a.tmps.getD p undef = .pointer (some ⟨(g r).1, k, none⟩) := by simp [Array.getD_eq_getD_getElem?, h4]
    obtain ⟨arr, h6, _, h7⟩ := hs.obj r row h2 hn
    rcases h3 with ⟨hd, hv⟩ | ⟨hd, sz, bt, z, l, hi, hl, hlen, rfl⟩
    · obtain ⟨x, h8, h9⟩ := h7 k v hv
      refine ⟨x, h9, ?_⟩
      have hcell : w.cell? ⟨(g r).1, k, none⟩ = some x := (cell_of_row w _ _ _ _ _ h6).trans h8
      simp only [resSem, hp]
      simp [asAddr, loadVar, run_isAgg hu, hd, hcell]
    · have hat : ∀ (j : Nat) (u : V), l[j]? = some u → row.cells[k + j]? = some u := by
        intro j u hu
        rw [← hl, List.getElem?_take] at hu
        split at hu
        · simpa using hu
        · cases hu
      have hrun := run_loadVar_agg (P := c.P) (w := w) (b := (g r).1) (o := k) (cs := (List.range sz).map fun j => arr.getD (k + j) undef) hu hd hi (by simp) (by
        intro j v hj
        have hjs : j < sz := by simpa using (List.getElem?_eq_some_iff.1 hj).1
        simp only [List.getElem?_map, List.getElem?_range hjs, Option.map_some, Option.some.injEq] at hj
        obtain ⟨y', h3, h4⟩ := h7 _ l[j] (hat j l[j] (List.getElem?_eq_getElem (by omega)))
        rw [Array.getD_eq_getD_getElem?, h3] at hj
        simp only [Option.getD_some] at hj
        subst hj
        exact (cell_of_row w _ _ _ _ _ h6).trans h3)
      refine ⟨_, .agg l ((List.range sz).map fun j => arr.getD (k + j) undef) (by simp [hlen]) ?_, ?_⟩
      · intro j u y hj hy
        obtain ⟨y', h3, h4⟩ := h7 _ u (hat j u hj)
        have hjs : j < sz := by rw [← hlen]; exact (List.getElem?_eq_some_iff.1 hj).1
        simp only [List.getElem?_map, List.getElem?_range hjs, Option.map_some, Option.some.injEq] at hy
        rw [Array.getD_eq_getD_getElem?, h3] at hy
        simp only [Option.getD_some] at hy
        subst hy
        exact h4
      · simp only [resSem, hp]
        simp [asAddr, hrun]

theorem run_resL (hs : Sim c g s a w) : ∀ (rs : List ResultVar) (vs : List V), resL c.P s rs vs →
    ∃ xs : List Value, VReps w (qt c s.H g) g vs xs ∧ (rs.mapM (resSem a.tmps)).run c.P w = .ok xs w
  | [], [], _ => ⟨[], ⟨rfl, by simp⟩, rfl⟩
  | [], _ :: _, h => h.elim
  | _ :: _, [], h => h.elim
  | r :: rs, v :: vs, h => by
    obtain ⟨x, h1, h2⟩ := run_resOne hs h.1
    obtain ⟨xs, h3, h4⟩ := run_resL hs rs vs h.2
    refine ⟨x :: xs, ⟨by simp [h3.1], fun j u y hu hy => ?_⟩, ?_⟩
    · cases j with
      | zero => simp at hu hy; subst hu hy; exact h1
      | succ j => exact h3.2 j u y (by simpa using hu) (by simpa using hy)
    · simp only [List.mapM_cons, Sem.run_bind, h2, Result.andThen_ok, h4]
      rfl

theorem run_results {fn : Func} {rs : List ResultVar} {vs : List V} (hr : fn.results = rs.toArray) (hs : Sim c g s a w) (h : resL c.P s rs vs) : ∃ x, VRep w (qt c s.H g) g (tupOf vs) x ∧ (results fn a.tmps).run c.P w = .ok x w := by
  obtain ⟨xs, ⟨h1, h2⟩, h3⟩ := run_resL hs rs vs h
  have hm : (results fn a.tmps).run c.P w = .ok (if h : xs.toArray.size = 1 then xs.toArray[0] else .tuple xs.toArray) w := by
    have h4 : results fn a.tmps = (do let vs ← fn.results.mapM (resSem a.tmps); pure (if h : vs.size = 1 then vs[0] else .tuple vs)) := by
      unfold results
      congr 2
    rw [h4]
    simp only [hr, Sem.run_bind, Array.mapM_eq_mapM_toList, List.toList_toArray, Sem.run_map, h3, Result.andThen_ok]
    simp
  match vs, xs, h1, h2, hm with
  | [v], [x], _, h2, hm => exact ⟨x, h2 0 v x rfl rfl, by rw [hm]; rfl⟩
  | [], [], _, h2, hm => exact ⟨_, .tup [] [] rfl (by simp), by rw [hm]; rfl⟩
  | v :: v' :: vs, x :: x' :: xs, h1, h2, hm => exact ⟨_, .tup _ (x :: x' :: xs) h1 h2, by rw [hm]; simp⟩
  | [v], [], h1, _, _ => simp at h1
  | [v], _ :: _ :: _, h1, _, _ => simp at h1
  | [], _ :: _, h1, _, _ => simp at h1
  | _ :: _ :: _, [], h1, _, _ => simp at h1
  | _ :: _ :: _, [_], h1, _, _ => simp at h1

theorem enter_get {xs : List Value} {n j : Nat} {x : Value} (hx : xs[j]? = some x) (hn : xs.length ≤ n) : (xs.toArray ++ Array.replicate (n - xs.toArray.size) undef)[j]? = some x := by
  have hj : j < xs.length := (List.getElem?_eq_some_iff.1 hx).1
  rw [Array.getElem?_append_left (by simpa using hj)]
  simpa using hx

/-- A function, from its body. -/
theorem Fn.intro {P : Program} {f : FuncId} {fn : Func} {code : Code} {n : Nat} {rs : List ResultVar} {args : List V} {post : V → Prop} (hf : Is P f fn code n rs) (hp : ∀ v ∈ args, v.pure) (hn : args.length ≤ n)
    (h : ∀ w0 out, AW ⟨P, w0, out, [], []⟩ code (QF P rs post) ⟨n, enum 0 args, [], []⟩) : Fn P f args post := by
  intro w out g xs hout hx
  refine calls_of_wp hf.func hf.body ?_
  have hs : Sim ⟨P, w, out, [], []⟩ g ⟨n, enum 0 args, [], []⟩ { tmps := xs.toArray ++ Array.replicate (fn.ntmps - xs.toArray.size) undef, defers := [] } w := by
    refine ⟨?_, rfl, ?_, by simp [fnd], by simp [fnd], by simp, by simp [fnd], by simp [fnd], hout, Below.refl _ _⟩
    · simp [hf.ntmps, ← hx.1]; omega
    · intro i v hv
      obtain ⟨_, h2⟩ := fnd_enum args 0 i v hv
      simp only [Nat.sub_zero] at h2
      have hi : i < xs.length := by rw [← hx.1]; exact (List.getElem?_eq_some_iff.1 h2).1
      refine ⟨xs[i], ?_, ?_⟩
      · rw [hf.ntmps]
        exact enter_get (List.getElem?_eq_getElem hi) (by rw [← hx.1]; exact hn)
      · refine (hx.2 i v _ h2 (List.getElem?_eq_getElem hi)).mono Cells.rfl (fun b hb _ => ⟨hb, by simp [fnd]⟩) (fun r _ => rfl)
  refine wp_mono (h w out g _ w hs) fun e a' w' hq => ?_
  obtain ⟨g', s', h1, h2⟩ := hq
  have fin : (∃ vs, resL P s' rs vs ∧ post (tupOf vs) ∧ (tupOf vs).pure) → a'.defers = [] ∧ ∃ v, (results fn a'.tmps).run P w' = .ok v w' ∧ ∃ v_1 x, Ending.returned v = .returned x ∧ post v_1 ∧ v_1.pure ∧ VRep w' (fun b => ¬ out b) g v_1 x ∧ Below w.heap.size w w' := by
    rintro ⟨vs, k1, k2, k3⟩
    obtain ⟨x, k4, k5⟩ := run_results (c := ⟨P, w, out, [], []⟩) hf.results h2 k1
    exact ⟨h2.defers, x, k5, _, x, rfl, k2, k3, (k4.repure k3).mono Cells.rfl (fun b hb _ => hb.1) (fun r _ => rfl), h2.below⟩
  cases e with
  | normal => exact fin h1
  | ret => exact fin h1
  | _ => exact h1.elim

theorem exec_call {ρ : Operand → Value} {fx : Operand} {xs : Array Operand} {ts : Array TypeId} {f : FuncId} {caps : List Value} {fn : Func} {code : Code} {n : Nat} {rs : List ResultVar} (hf : Is c.P f fn code n rs) (ho : o.op = .call { callee := .value fx, args := xs, argTypes := ts })
    (hfx : ρ fx = .func (.func f) #[] caps.toArray) : (execOp ρ o).run c.P w = .ok (.enter f ((xs.toList.map ρ) ++ caps).toArray) w := by
  have hb : fn.body.isNone = false := by rw [hf.body]; rfl
  have hn := hf.name
  simp only [execOp, ho, resolve, Deferred.ofValue, hfx, invoke, callFunc, Sem.run_bind, Sem.run_pure, Result.andThen_ok]
  have hb' : ¬ fn.body = none := by rw [hf.body]; simp
  simp [Sem.run, hf.func, hn, hb, program]
  simp at hn
  rw [if_neg hn, if_neg hb']
  simp [← Array.toList_map]

/-- A call of a function that changes nothing. -/
theorem sm_call {fx : Operand} {xs : Array Operand} {ts : Array TypeId} {f : FuncId} {fn : Func} {code : Code} {n : Nat} {rs : List ResultVar} {args : List V} {post : V → Prop} (hfn : Fn c.P f args post) (hf : Is c.P f fn code n rs) (ho : o.op = .call { callee := .value fx, args := xs, argTypes := ts })
    (hfx : s.ev fx = some (.fn f [])) (hargs : xs.toList.map s.ev = args.map some) (hd : dok s o = true) : StepM c o s (fun s' => ∃ v, post v ∧ v.pure ∧ s' = s.put o.dst v) := by
  intro g a w hs K Q hK
  have hfx' : a.eval fx = .func (.func f) #[] ([] : List Value).toArray := by
    have h := hs.ev hfx
    generalize a.eval fx = u at h
    cases h with
    | fn _ _ cs hl _ =>
      obtain rfl : cs = [] := by cases cs with | nil => rfl | cons => simp at hl
      rfl
  have hx : VReps w (fun b => ¬ ¬ qt c s.H g b) g args (xs.toList.map a.eval) := by
    refine ⟨by simpa using (congrArg List.length hargs).symm, fun j u y hu hy => ?_⟩
    have h1 := congrArg (fun l => l[j]?) hargs
    simp only [List.getElem?_map, hu, Option.map_some] at h1 hy
    cases h2 : xs.toList[j]? with
    | none => rw [h2] at h1; cases h1
    | some p =>
      rw [h2] at h1 hy
      simp only [Option.map_some, Option.some.injEq] at h1 hy
      subst hy
      exact (hs.ev h1).mono Cells.rfl (fun b hb _ => not_not_intro hb) (fun r _ => rfl)
  unfold Oper.wp
  rw [exec_call (caps := []) hf ho hfx']
  simp only [Oper.upon, List.append_nil]
  refine (hfn w (fun b => ¬ qt c s.H g b) g _ ?_ hx).mono ?_
  · intro b hb
    rcases Classical.em (c.out b) with h | h
    · exact Nat.lt_of_lt_of_le (hs.low b h) hs.below.size
    · rcases Classical.em (∃ r row, fnd s.H r = some row ∧ row.nil = false ∧ (g r).1 = b) with ⟨r, row, h1, h2, rfl⟩ | h'
      · obtain ⟨arr, h3, _⟩ := hs.obj r row h1 h2
        exact (Array.getElem?_eq_some_iff.1 h3).1
      · exact absurd ⟨h, fun r row h1 h2 h3 => h' ⟨r, row, h1, h2, h3⟩⟩ hb
  · rintro e w' ⟨v, x, rfl, h1, h2, h3, h4⟩
    refine hK g _ _ _ ⟨v, h1, h2, rfl⟩ ((hs.move h4).put o.dst (dok_spec hd) ?_) h4
    exact h3.mono Cells.rfl (fun b hb _ => Classical.not_not.1 hb) (fun r _ => rfl)
end
end Go.Proofs.Ythlcginebeapdaa
