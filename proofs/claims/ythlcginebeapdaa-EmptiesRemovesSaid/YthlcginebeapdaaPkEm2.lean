/- Part 2 of what the law EmptiesRemoves rests on. -/
import Derived.Test.YthlcginebeapdaaPkEm1
namespace Go.Proofs.Ythlcginebeapdaa
open Go.RowKit
set_option linter.unusedSimpArgs false
set_option linter.unusedVariables false

/-- A value that speaks of no object. -/
def V.pure (v : V) : Prop := ∀ r, v.has r = false
def VReps (w : World) (q : Nat → Prop) (g : Nat → Nat × Nat) (vs : List V) (xs : List Value) : Prop := vs.length = xs.length ∧ ∀ (j : Nat) (u : V) (x : Value), vs[j]? = some u → xs[j]? = some x → VRep w q g u x

/-- What a function does that changes nothing of what was there: from arguments to a result of which post holds. -/
def Fn (P : Program) (f : FuncId) (args : List V) (post : V → Prop) : Prop := ∀ (w : World) (out : Nat → Prop) (g : Nat → Nat × Nat) (xs : List Value), (∀ b, out b → b < w.heap.size) → VReps w (fun b => ¬ out b) g args xs →
  Calls P f xs.toArray w fun e w' => ∃ v x, e = .returned x ∧ post v ∧ v.pure ∧ VRep w' (fun b => ¬ out b) g v x ∧ Below w.heap.size w w'

theorem Fn.mono {P : Program} {f : FuncId} {args : List V} {post post' : V → Prop} (h : Fn P f args post) (hp : ∀ v, post v → post' v) : Fn P f args post' := fun w out g xs h1 h2 =>
  (h w out g xs h1 h2).mono fun e w' ⟨v, x, h3, h4, h5⟩ => ⟨v, x, h3, hp v h4, h5⟩

/-- How a function stands in the program. -/
structure Is (P : Program) (f : FuncId) (fn : Func) (code : Code) (n : Nat) (rs : List ResultVar) : Prop where
  func : P.funcs[f]? = some fn
  name : (fn.name == "runtime.NumGoroutine") = false
  body : fn.body = some code
  ntmps : fn.ntmps = n
  results : fn.results = rs.toArray

def resOne (P : Program) (s : S) (r : ResultVar) (v : V) : Prop :=
  match r with
  | .tmp t => fnd s.T t = some v
  | .cell a ty => ∃ r k row d, fnd s.T a = some (.ref r k) ∧ fnd s.H r = some row ∧ row.nil = false ∧ P.underlying ty = some d ∧
      (isAggD d = false ∧ row.cells[k]? = some v ∨ isAggD d = true ∧ ∃ sz bt z l, Inf P ty sz bt z ∧ (row.cells.drop k).take sz = l ∧ l.length = sz ∧ v = .agg l)
def resL (P : Program) (s : S) : List ResultVar → List V → Prop
  | [], [] => True
  | r :: rs, v :: vs => resOne P s r v ∧ resL P s rs vs
  | _, _ => False
def tupOf : List V → V
  | [v] => v
  | vs => .tup vs

def QF (P : Program) (rs : List ResultVar) (post : V → Prop) : Exit → S → Prop
  | .normal, s => ∃ vs, resL P s rs vs ∧ post (tupOf vs) ∧ (tupOf vs).pure
  | .ret, s => ∃ vs, resL P s rs vs ∧ post (tupOf vs) ∧ (tupOf vs).pure
  | _, _ => False

def enum : Nat → List V → List (Nat × V)
  | _, [] => []
  | n, v :: vs => (n, v) :: enum (n + 1) vs
theorem fnd_enum : ∀ (l : List V) (n i : Nat) (v : V), fnd (enum n l) i = some v → n ≤ i ∧ l[i - n]? = some v
  | [], n, i, v, h => by simp [enum, fnd] at h
  | u :: l, n, i, v, h => by
    simp only [enum, fnd] at h
    split at h
    · rename_i e
      simp only [beq_iff_eq] at e
      subst e
      simp only [Option.some.injEq] at h
      subst h
      simp
    · rename_i e
      simp only [beq_iff_eq] at e
      obtain ⟨h1, h2⟩ := fnd_enum l (n + 1) i v h
      refine ⟨by omega, ?_⟩
      obtain ⟨m, rfl⟩ : ∃ m, i = n + 1 + m := ⟨i - (n + 1), by omega⟩
      rw [show n + 1 + m - n = m + 1 by omega]
      rw [show n + 1 + m - (n + 1) = m by omega] at h2
      simpa using h2

section
variable {c : Cx} {s : S} {o : Oper} {g : Nat → Nat × Nat} {a : Act} {w : World}

theorem VRep.repure {v : V} {x : Value} {q : Nat → Prop} {g' : Nat → Nat × Nat} (h : VRep w q g v x) (hv : v.pure) : VRep w q g' v x :=
  h.mono Cells.rfl (fun _ h _ => h) (fun r hr => by rw [hv r] at hr; cases hr)

def resSem (tmps : Array Value) : ResultVar → Sem Value
  | .tmp t => Pure.pure (tmps.getD t undef)
  | .cell p t => do loadVar t (← asAddr (tmps.getD p undef))
theorem run_resOne (hs : Sim c g s a w) {r : ResultVar} {v : V} (h : resOne c.P s r v) :
    ∃ x, VRep w (qt c s.H g) g v x ∧ (resSem a.tmps r).run c.P w = .ok x w := by
  cases r with
  | tmp t =>
    simp only [resOne] at h
    obtain ⟨x, h1, h2⟩ := hs.tmp t v h
    refine ⟨x, h2, ?_⟩
    simp [resSem, Array.getD_eq_getD_getElem?, h1]
  | cell p ty =>
    simp only [resOne] at h
    obtain ⟨r, k, row, d, h1, h2, hn, hu, h3⟩ := h
    obtain ⟨y, h4, h5⟩ := hs.tmp p _ h1
    cases h5
    have hp : a.tmps.getD p undef = .pointer (some ⟨(g r).1, k, none⟩) := by simp [Array.getD_eq_getD_getElem?, h4]
    obtain ⟨arr, h6, _, h7⟩ := hs.obj r row h2 hn
    rcases h3 with ⟨hd, hv⟩ | ⟨hd, sz, bt, z, l, hi, hl, hlen, rfl⟩
    · obtain ⟨x, h8, h9⟩ := h7 k v hv
      refine ⟨x, h9, ?_⟩
      have hcell : w.cell? ⟨(g r).1, k, none⟩ = some x := (cell_of_row w _ _ _ _ _ h6).trans h8
      simp only [resSem, hp]
      simp [asAddr, loadVar, run_isAgg hu, hd, hcell]
    · have hat : ∀ (j : Nat) (u : V), l[j]? = some u → row.cells[k + j]? = some u := by
        intro j u hu
        rw [← hl, List.getElem?_take] at hu
        split at hu
        · simpa using hu
        · cases hu
      have hrun := run_loadVar_agg (P := c.P) (w := w) (b := (g r).1) (o := k) (cs := (List.range sz).map fun j => arr.getD (k + j) undef) hu hd hi (by simp) (by
        intro j v hj
        have hjs : j < sz := by simpa using (List.getElem?_eq_some_iff.1 hj).1
        simp only [List.getElem?_map, List.getElem?_range hjs, Option.map_some, Option.some.injEq] at hj
        obtain ⟨y', h3, h4⟩ := h7 _ l[j] (hat j l[j] (List.getElem?_eq_getElem (by omega)))
        rw [Array.getD_eq_getD_getElem?, h3] at hj
        simp only [Option.getD_some] at hj
        subst hj
        exact (cell_of_row w _ _ _ _ _ h6).trans h3)
      refine ⟨_, .agg l ((List.range sz).map fun j => arr.getD (k + j) undef) (by simp [hlen]) ?_, ?_⟩
      · intro j u y hj hy
        obtain ⟨y', h3, h4⟩ := h7 _ u (hat j u hj)
        have hjs : j < sz := by rw [← hlen]; exact (List.getElem?_eq_some_iff.1 hj).1
        simp only [List.getElem?_map, List.getElem?_range hjs, Option.map_some, Option.some.injEq] at hy
        rw [Array.getD_eq_getD_getElem?, h3] at hy
        simp only [Option.getD_some] at hy
        subst hy
        exact h4
      · simp only [resSem, hp]
        simp [asAddr, hrun]

theorem run_resL (hs : Sim c g s a w) : ∀ (rs : List ResultVar) (vs : List V), resL c.P s rs vs →
    ∃ xs : List Value, VReps w (qt c s.H g) g vs xs ∧ (rs.mapM (resSem a.tmps)).run c.P w = .ok xs w
  | [], [], _ => ⟨[], ⟨rfl, by simp⟩, rfl⟩
  | [], _ :: _, h => h.elim
  | _ :: _, [], h => h.elim
  | r :: rs, v :: vs, h => by
    obtain ⟨x, h1, h2⟩ := run_resOne hs h.1
    obtain ⟨xs, h3, h4⟩ := run_resL hs rs vs h.2
    refine ⟨x :: xs, ⟨by simp [h3.1], fun j u y hu hy => ?_⟩, ?_⟩
    · cases j with
      | zero => simp at hu hy; subst hu hy; exact h1
      | succ j => exact h3.2 j u y (by simpa using hu) (by simpa using hy)
    · simp only [List.mapM_cons, Sem.run_bind, h2, Result.andThen_ok, h4]
      rfl

theorem run_results {fn : Func} {rs : List ResultVar} {vs : List V} (hr : fn.results = rs.toArray) (hs : Sim c g s a w) (h : resL c.P s rs vs) : ∃ x, VRep w (qt c s.H g) g (tupOf vs) x ∧ (results fn a.tmps).run c.P w = .ok x w := by
  obtain ⟨xs, ⟨h1, h2⟩, h3⟩ := run_resL hs rs vs h
  have hm : (results fn a.tmps).run c.P w = .ok (if h : xs.toArray.size = 1 then xs.toArray[0] else .tuple xs.toArray) w := by
    have h4 : results fn a.tmps = (do let vs ← fn.results.mapM (resSem a.tmps); pure (if h : vs.size = 1 then vs[0] else .tuple vs)) := by
      unfold results
      congr 2
    rw [h4]
    simp only [hr, Sem.run_bind, Array.mapM_eq_mapM_toList, List.toList_toArray, Sem.run_map, h3, Result.andThen_ok]
    simp
  match vs, xs, h1, h2, hm with
  | [v], [x], _, h2, hm => exact ⟨x, h2 0 v x rfl rfl, by rw [hm]; rfl⟩
  | [], [], _, h2, hm => exact ⟨_, .tup [] [] rfl (by simp), by rw [hm]; rfl⟩
  | v :: v' :: vs, x :: x' :: xs, h1, h2, hm => exact ⟨_, .tup _ (x :: x' :: xs) h1 h2, by rw [hm]; simp⟩
  | [v], [], h1, _, _ => simp at h1
  | [v], _ :: _ :: _, h1, _, _ => simp at h1
  | [], _ :: _, h1, _, _ => simp at h1
  | _ :: _ :: _, [], h1, _, _ => simp at h1
  | _ :: _ :: _, [_], h1, _, _ => simp at h1

theorem enter_get {xs : List Value} {n j : Nat} {x : Value} (hx : xs[j]? = some x) (hn : xs.length ≤ n) : (xs.toArray ++ Array.replicate (n - xs.toArray.size) undef)[j]? = some x := by
  have hj : j < xs.length := (List.getElem?_eq_some_iff.1 hx).1
  rw [Array.getElem?_append_left (by simpa using hj)]
  simpa using hx

/-- A function, from its body. -/
theorem Fn.intro {P : Program} {f : FuncId} {fn : Func} {code : Code} {n : Nat} {rs : List ResultVar} {args : List V} {post : V → Prop} (hf : Is P f fn code n rs) (hp : ∀ v ∈ args, v.pure) (hn : args.length ≤ n)
    (h : ∀ w0 out, AW ⟨P, w0, out, [], []⟩ code (QF P rs post) ⟨n, enum 0 args, [], []⟩) : Fn P f args post := by
  intro w out g xs hout hx
  refine calls_of_wp hf.func hf.body ?_
  have hs : Sim ⟨P, w, out, [], []⟩ g ⟨n, enum 0 args, [], []⟩ { tmps := xs.toArray ++ Array.replicate (fn.ntmps - xs.toArray.size) undef, defers := [] } w := by
    refine ⟨?_, rfl, ?_, by simp [fnd], by simp [fnd], by simp, by simp [fnd], by simp [fnd], hout, Below.refl _ _⟩
    · simp [hf.ntmps, ← hx.1]; omega
    · intro i v hv
      obtain ⟨_, h2⟩ := fnd_enum args 0 i v hv
      simp only [Nat.sub_zero] at h2
      have hi : i < xs.length := by rw [← hx.1]; exact (List.getElem?_eq_some_iff.1 h2).1
      refine ⟨xs[i], ?_, ?_⟩
      · rw [hf.ntmps]
        exact enter_get (List.getElem?_eq_getElem hi) (by rw [← hx.1]; exact hn)
      · refine (hx.2 i v _ h2 (List.getElem?_eq_getElem hi)).mono Cells.rfl (fun b hb _ => ⟨hb, by simp [fnd]⟩) (fun r _ => rfl)
  refine wp_mono (h w out g _ w hs) fun e a' w' hq => ?_
  obtain ⟨g', s', h1, h2⟩ := hq
  have fin : (∃ vs, resL P s' rs vs ∧ post (tupOf vs) ∧ (tupOf vs).pure) → a'.defers = [] ∧ ∃ v, (results fn a'.tmps).run P w' = .ok v w' ∧ ∃ v_1 x, Ending.returned v = .returned x ∧ post v_1 ∧ v_1.pure ∧ VRep w' (fun b => ¬ out b) g v_1 x ∧ Below w.heap.size w w' := by
    rintro ⟨vs, k1, k2, k3⟩
    obtain ⟨x, k4, k5⟩ := run_results (c := ⟨P, w, out, [], []⟩) hf.results h2 k1
    exact ⟨h2.defers, x, k5, _, x, rfl, k2, k3, (k4.repure k3).mono Cells.rfl (fun b hb _ => hb.1) (fun r _ => rfl), h2.below⟩
  cases e with
  | normal => exact fin h1
  | ret => exact fin h1
  | _ => exact h1.elim

theorem exec_call {ρ : Operand → Value} {fx : Operand} {xs : Array Operand} {ts : Array TypeId} {f : FuncId} {caps : List Value} {fn : Func} {code : Code} {n : Nat} {rs : List ResultVar} (hf : Is c.P f fn code n rs) (ho : o.op = .call { callee := .value fx, args := xs, argTypes := ts })
    (hfx : ρ fx = .func (.func f) #[] caps.toArray) : (execOp ρ o).run c.P w = .ok (.enter f ((xs.toList.map ρ) ++ caps).toArray) w := by
  have hb : fn.body.isNone = false := by rw [hf.body]; rfl
  have hn := hf.name
  simp only [execOp, ho, resolve, Deferred.ofValue, hfx, invoke, callFunc, Sem.run_bind, Sem.run_pure, Result.andThen_ok]
  have hb' : ¬ fn.body = none := by rw [hf.body]; simp
  simp [Sem.run, hf.func, hn, hb, program]
  simp at hn
  rw [if_neg hn, if_neg hb']
  simp [← Array.toList_map]

/-- A call of a function that changes nothing. -/
theorem sm_call {fx : Operand} {xs : Array Operand} {ts : Array TypeId} {f : FuncId} {fn : Func} {code : Code} {n : Nat} {rs : List ResultVar} {args : List V} {post : V → Prop} (hfn : Fn c.P f args post) (hf : Is c.P f fn code n rs) (ho : o.op = .call { callee := .value fx, args := xs, argTypes := ts })
    (hfx : s.ev fx = some (.fn f [])) (hargs : xs.toList.map s.ev = args.map some) (hd : dok s o = true) : StepM c o s (fun s' => ∃ v, post v ∧ v.pure ∧ s' = s.put o.dst v) := by
  intro g a w hs K Q hK
  have hfx' : a.eval fx = .func (.func f) #[] ([] : List Value).toArray := by
    have h := hs.ev hfx
    generalize a.eval fx = u at h
    cases h with
    | fn _ _ cs hl _ =>
      obtain rfl : cs = [] := by cases cs with | nil => rfl | cons => simp at hl
      rfl
  have hx : VReps w (fun b => ¬ ¬ qt c s.H g b) g args (xs.toList.map a.eval) := by
    refine ⟨by simpa using (congrArg List.length hargs).symm, fun j u y hu hy => ?_⟩
    have h1 := congrArg (fun l => l[j]?) hargs
    simp only [List.getElem?_map, hu, Option.map_some] at h1 hy
    cases h2 : xs.toList[j]? with
    | none => rw [h2] at h1; cases h1
    | some p =>
      rw [h2] at h1 hy
      simp only [Option.map_some, Option.some.injEq] at h1 hy
      subst hy
      exact (hs.ev h1).mono Cells.rfl (fun b hb _ => not_not_intro hb) (fun r _ => rfl)
  unfold Oper.wp
  rw [exec_call (caps := []) hf ho hfx']
  simp only [Oper.upon, List.append_nil]
  refine (hfn w (fun b => ¬ qt c s.H g b) g _ ?_ hx).mono ?_
  · intro b hb
    rcases Classical.em (c.out b) with h | h
    · exact Nat.lt_of_lt_of_le (hs.low b h) hs.below.size
    · rcases Classical.em (∃ r row, fnd s.H r = some row ∧ row.nil = false ∧ (g r).1 = b) with ⟨r, row, h1, h2, rfl⟩ | h'
      · obtain ⟨arr, h3, _⟩ := hs.obj r row h1 h2
        exact (Array.getElem?_eq_some_iff.1 h3).1
      · exact absurd ⟨h, fun r row h1 h2 h3 => h' ⟨r, row, h1, h2, h3⟩⟩ hb
  · rintro e w' ⟨v, x, rfl, h1, h2, h3, h4⟩
    refine hK g _ _ _ ⟨v, h1, h2, rfl⟩ ((hs.move h4).put o.dst (dok_spec hd) ?_) h4
    exact h3.mono Cells.rfl (fun b hb _ => Classical.not_not.1 hb) (fun r _ => rfl)
end
end Go.Proofs.Ythlcginebeapdaa
namespace Go.Proofs.Ythlcginebeapdaa
open Go.RowKit
set_option linter.unusedSimpArgs false
set_option linter.unusedVariables false

section
variable {c : Cx} {s : S} {o : Oper} {α : Type}

theorem rp_b {b b' : Bool} (h : RP c o s (.b b)) (e : b = b') : RP c o s (.b b') := by subst e; exact h
theorem rp_eqlT {t t' : TypeId} {x y : Operand} {k : IntKind} {m n : Int} (ho : o.op = .binOp .eql t x y t') (hx : s.ev x = some (.d (.p (.int k m)))) (hy : s.ev y = some (.d (.p (.int k n)))) (h : m = n) : RP c o s (.b true) := rp_b (rp_eql ho hx hy) (by simp [h])
theorem rp_eqlF {t t' : TypeId} {x y : Operand} {k : IntKind} {m n : Int} (ho : o.op = .binOp .eql t x y t') (hx : s.ev x = some (.d (.p (.int k m)))) (hy : s.ev y = some (.d (.p (.int k n)))) (h : ¬ m = n) : RP c o s (.b false) := rp_b (rp_eql ho hx hy) (by simp [h])
theorem rp_neqT {t t' : TypeId} {x y : Operand} {k : IntKind} {m n : Int} (ho : o.op = .binOp .neq t x y t') (hx : s.ev x = some (.d (.p (.int k m)))) (hy : s.ev y = some (.d (.p (.int k n)))) (h : ¬ m = n) : RP c o s (.b true) := rp_b (rp_neq ho hx hy) (by simp [h])
theorem rp_neqF {t t' : TypeId} {x y : Operand} {k : IntKind} {m n : Int} (ho : o.op = .binOp .neq t x y t') (hx : s.ev x = some (.d (.p (.int k m)))) (hy : s.ev y = some (.d (.p (.int k n)))) (h : m = n) : RP c o s (.b false) := rp_b (rp_neq ho hx hy) (by simp [h])
theorem rp_lssT {t t' : TypeId} {x y : Operand} {k : IntKind} {m n : Int} (ho : o.op = .binOp .lss t x y t') (hx : s.ev x = some (.d (.p (.int k m)))) (hy : s.ev y = some (.d (.p (.int k n)))) (h : m < n) : RP c o s (.b true) := rp_b (rp_lss ho hx hy) (by simp [h])
theorem rp_lssF {t t' : TypeId} {x y : Operand} {k : IntKind} {m n : Int} (ho : o.op = .binOp .lss t x y t') (hx : s.ev x = some (.d (.p (.int k m)))) (hy : s.ev y = some (.d (.p (.int k n)))) (h : ¬ m < n) : RP c o s (.b false) := rp_b (rp_lss ho hx hy) (by simpa using h)
theorem rp_leqT {t t' : TypeId} {x y : Operand} {k : IntKind} {m n : Int} (ho : o.op = .binOp .leq t x y t') (hx : s.ev x = some (.d (.p (.int k m)))) (hy : s.ev y = some (.d (.p (.int k n)))) (h : m ≤ n) : RP c o s (.b true) := rp_b (rp_leq ho hx hy) (by simp [h])
theorem rp_leqF {t t' : TypeId} {x y : Operand} {k : IntKind} {m n : Int} (ho : o.op = .binOp .leq t x y t') (hx : s.ev x = some (.d (.p (.int k m)))) (hy : s.ev y = some (.d (.p (.int k n)))) (h : ¬ m ≤ n) : RP c o s (.b false) := rp_b (rp_leq ho hx hy) (by simpa using h)
theorem rp_gtrT {t t' : TypeId} {x y : Operand} {k : IntKind} {m n : Int} (ho : o.op = .binOp .gtr t x y t') (hx : s.ev x = some (.d (.p (.int k m)))) (hy : s.ev y = some (.d (.p (.int k n)))) (h : n < m) : RP c o s (.b true) := rp_b (rp_gtr ho hx hy) (by simp [h])
theorem rp_gtrF {t t' : TypeId} {x y : Operand} {k : IntKind} {m n : Int} (ho : o.op = .binOp .gtr t x y t') (hx : s.ev x = some (.d (.p (.int k m)))) (hy : s.ev y = some (.d (.p (.int k n)))) (h : ¬ n < m) : RP c o s (.b false) := rp_b (rp_gtr ho hx hy) (by simpa using h)
theorem rp_geqT {t t' : TypeId} {x y : Operand} {k : IntKind} {m n : Int} (ho : o.op = .binOp .geq t x y t') (hx : s.ev x = some (.d (.p (.int k m)))) (hy : s.ev y = some (.d (.p (.int k n)))) (h : n ≤ m) : RP c o s (.b true) := rp_b (rp_geq ho hx hy) (by simp [h])
theorem rp_geqF {t t' : TypeId} {x y : Operand} {k : IntKind} {m n : Int} (ho : o.op = .binOp .geq t x y t') (hx : s.ev x = some (.d (.p (.int k m)))) (hy : s.ev y = some (.d (.p (.int k n)))) (h : ¬ n ≤ m) : RP c o s (.b false) := rp_b (rp_geq ho hx hy) (by simpa using h)

theorem Fn.decT {P : Program} {f : FuncId} {args : List V} {p : Prop} [Decidable p] (h : Fn P f args (fun v => v = .b (decide p))) (hp : p) : Fn P f args (fun v => v = .b true) := h.mono fun v hv => by rw [hv, decide_eq_true hp]
theorem Fn.decF {P : Program} {f : FuncId} {args : List V} {p : Prop} [Decidable p] (h : Fn P f args (fun v => v = .b (decide p))) (hp : ¬ p) : Fn P f args (fun v => v = .b false) := h.mono fun v hv => by rw [hv, decide_eq_false hp]
theorem AW.condT {Q : Exit → S → Prop} {x : Operand} {t e : Code} (hc : s.ev x = some (.b true)) (h : AW c t Q s) : AW c (.cond x t e) Q s := AW.cond hc (fun _ => h) (fun h' => by cases h')
theorem AW.condF {Q : Exit → S → Prop} {x : Operand} {t e : Code} (hc : s.ev x = some (.b false)) (h : AW c e Q s) : AW c (.cond x t e) Q s := AW.cond hc (fun h' => by cases h') (fun _ => h)

/-- An element of a slice that is told by a list. -/
theorem rp_index_map {t e : TypeId} {x i : Operand} {sz bt bt' k : Nat} {z : Value} {l : List α} {f : α → List D} {y : α} {n' : Int} {kd : IntKind} (hu : c.P.underlying t = some (.slice e)) (hi : Inf c.P e sz bt z) (ho : o.op = .indexAddr t x i) (hx : s.ev x = some (.d (.sl sz bt' (l.map f)))) (hy : s.ev i = some (.d (.p (.int kd n'))))
    (hk : n' = (k : Int)) (hl : l[k]? = some y) : RP c o s (.ad (f y)) := rd_index_sl hu hi ho hx hy hk (by simp [hl])
theorem rp_len_map {t e : TypeId} {x : Operand} {sz bt' n : Nat} {l : List α} {f : α → List D} (hu : c.P.underlying t = some (.slice e)) (ho : o.op = .call { callee := .builtin .len, args := #[x], argTypes := #[t] }) (hx : s.ev x = some (.d (.sl sz bt' (l.map f)))) (hl : l.length = n) : RP c o s (.i (n : Int)) := by
  have := rp_len_sl hu ho hx
  rwa [List.length_map, hl] at this
/-- A cell of an object that is told by a list. -/
theorem rd_load_map {t : TypeId} {d : TypeDesc} {x : Operand} {r k : Nat} {row : Row} {l : List α} {f : α → V} {y : α} (hu : c.P.underlying t = some d) (hd : isAggD d = false) (ho : o.op = .load t x) (hx : s.ev x = some (.ref r (k * 1))) (hr : fnd s.H r = some row) (hn : row.nil = false) (hf : row.cells = l.map f) (hl : l[k]? = some y) : RD c o s (f y) :=
  rd_load_ref hu hd ho hx hr hn (by rw [hf]; simp [hl])
theorem st_store_map {t : TypeId} {bt : Nat} {z : Value} {x y : Operand} {r k : Nat} {row : Row} {l : List α} {f : α → V} {v : α} (hi : Inf c.P t 1 bt z) (ho : o.op = .store t x y) (hd : o.dst = none) (hx : s.ev x = some (.ref r (k * 1))) (hy : s.ev y = some (f v)) (hr : fnd s.H r = some row) (hn : row.nil = false)
    (hf : row.cells = l.map f) (hok : (f v).one = true) (hfit : k < l.length) : Step c o s (fun s' => s' = { s with H := (r, { row with cells := (l.set k v).map f }) :: s.H }) :=
  st_store hi ho hd hx hy hr hn hok (by rw [hf]; simpa using hfit) (by rw [hf, List.map_set, Nat.mul_one])
/-- make, told by a list. -/
theorem sm_make_map (r : Nat) {t e : TypeId} {bt n : Nat} {z : Value} {x : Operand} {n' : Int} (f : α → V) (z' : α) (hu : c.P.underlying t = some (.slice e)) (hi : Inf c.P e 1 bt z) (hz : z.oneCell' = true) (hzf : V.d (.p z) = f z') (ho : o.op = .makeSlice t x x) (hx : s.ev x = some (.i n')) (hn : n' = (n : Int)) (hb : n ≤ 1000000) (hbt : bt ≤ 64) (hr : s.clean r = true) (hd : dok s o = true) :
    StepM c o s (fun s' => s' = s.newObj r ⟨e, (List.replicate n z').map f, false, 1⟩ o.dst (.own r 1 n false)) := by
  rw [List.map_replicate, ← hzf]
  exact sm_make1 r hu hi hz ho hx hn hb hbt hr hd

theorem AW.bound {Q : Exit → S → Prop} {code : Code} (x : Operand) {sz bt : Nat} {rows : List (List D)} (hx : s.ev x = some (.d (.sl sz bt rows))) (h : rows.length * bt ≤ 140737488355328 → AW c code Q s) : AW c code Q s := fun g a w hs => by
  have hv := hs.ev hx
  generalize a.eval x = y at hv
  cases hv with
  | d _ _ hd =>
    cases hd with
    | sl _ _ _ _ _ _ _ _ _ _ hl => exact h hl g a w hs
theorem Wk.eq {v u : V} (h : v = u) : Wk v u := by subst h; exact .refl _
def LT (s : S) : List (Nat × V) → Prop
  | [] => True
  | (i, v) :: r => (∃ u, fnd s.T i = some u ∧ Wk v u) ∧ LT s r
def LH (s : S) : List (Nat × Row) → Prop
  | [] => True
  | (i, row) :: r => fnd s.H i = some row ∧ LH s r
theorem LT.get {s : S} : ∀ {l : List (Nat × V)}, LT s l → ∀ (i : Nat) (v : V), fnd l i = some v → ∃ u, fnd s.T i = some u ∧ Wk v u
  | [], _, i, v, h => by simp [fnd] at h
  | (k, u) :: r, hl, i, v, h => by
    simp only [fnd] at h
    split at h
    · rename_i e
      simp only [beq_iff_eq] at e
      subst e
      simp only [Option.some.injEq] at h
      subst h
      exact hl.1
    · exact LT.get hl.2 i v h
theorem LH.get {s : S} : ∀ {l : List (Nat × Row)}, LH s l → ∀ (i : Nat) (v : Row), fnd l i = some v → fnd s.H i = some v
  | [], _, i, v, h => by simp [fnd] at h
  | (k, u) :: r, hl, i, v, h => by
    simp only [fnd] at h
    split at h
    · rename_i e
      simp only [beq_iff_eq] at e
      subst e
      simp only [Option.some.injEq] at h
      subst h
      exact hl.1
    · exact LH.get hl.2 i v h
theorem Less.of {s' s : S} (hn : s'.n = s.n) (hT : LT s s'.T) (hH : LH s s'.H) (hK : s'.K = s.K) : Less s' s :=
  ⟨hn, fun i v h => hT.get i v h, fun r row h => ⟨row, hH.get r row h, rfl, rfl, rfl, fun j v hv => ⟨v, hv, .refl _⟩⟩, fun j v h => ⟨v, by rw [← hK]; exact h, .refl _⟩⟩
/-- The number in a temporary. -/
def S.nat (s : S) (t : Nat) : Nat :=
  match fnd s.T t with
  | some (.d (.p (.int _ n))) => n.toNat
  | _ => 0
@[simp] theorem hasL_d (r : Nat) (l : List α) (f : α → D) : V.hasL r (l.map (fun x => V.d (f x))) = false := by simp [V.hasL_false, V.has]
@[simp] theorem hasL_i (r : Nat) (l : List Int) : V.hasL r (l.map V.i) = false := by simp [V.hasL_false, V.has]
@[simp] theorem hasL_b (r : Nat) (l : List Bool) : V.hasL r (l.map V.b) = false := by simp [V.hasL_false, V.has]
@[simp] theorem hasL_s (r : Nat) (l : List ByteArray) : V.hasL r (l.map V.s) = false := by simp [V.hasL_false, V.has]
abbrev V.n (x : Nat) : V := V.i (x : Int)
@[simp] theorem hasL_n (r : Nat) (l : List Nat) : V.hasL r (l.map V.n) = false := by simp [V.hasL_false, V.has]
@[simp] theorem hasL_rep (r n : Nat) (x : D) : V.hasL r (List.replicate n (V.d x)) = false := by simp [V.hasL_false, V.has]
theorem AL.sm {Q : Exit → S → Prop} {ops : Array Oper} {rest : List Oper} {X : S} (hg : o.guard = none) (h : StepM c o s (fun s' => s' = X)) (hN : AL c ops rest Q X) : AL c ops (o :: rest) Q s :=
  AL.stepM hg fun g a w hs K Q' hK => h g a w hs K Q' fun g' s' a' w' e h1 h2 => hK g' s' a' w' (by subst e; exact hN) h1 h2
theorem AL.st {Q : Exit → S → Prop} {ops : Array Oper} {rest : List Oper} {X : S} (hg : o.guard = none) (h : Step c o s (fun s' => s' = X)) (hN : AL c ops rest Q X) : AL c ops (o :: rest) Q s :=
  AL.step hg fun g a w hs K Q' hK => h g a w hs K Q' fun g' s' a' w' e h1 => hK g' s' a' w' (by subst e; exact hN) h1
theorem AL.call {Q : Exit → S → Prop} {ops : Array Oper} {rest : List Oper} {post : V → Prop} (hg : o.guard = none) (h : StepM c o s (fun s' => ∃ v, post v ∧ v.pure ∧ s' = s.put o.dst v)) (hN : ∀ v, post v → v.pure → AL c ops rest Q (s.put o.dst v)) : AL c ops (o :: rest) Q s :=
  AL.stepM hg fun g a w hs K Q' hK => h g a w hs K Q' fun g' s' a' w' ⟨v, h1, h2, e⟩ h3 h4 => hK g' s' a' w' (by subst e; exact hN v h1 h2) h3 h4
theorem AL.cally {Q : Exit → S → Prop} {ops : Array Oper} {rest : List Oper} {post : V → Prop} {j : Nat} {b : Bool} (hg : o.guard = some (j, b)) (hy : yld ops s j = some b) (h : StepM c o s (fun s' => ∃ v, post v ∧ v.pure ∧ s' = s.put o.dst v)) (hN : ∀ v, post v → v.pure → AL c ops rest Q (s.put o.dst v)) : AL c ops (o :: rest) Q s :=
  AL.yes hg hy fun g a w hs K Q' hK => h g a w hs K Q' fun g' s' a' w' ⟨v, h1, h2, e⟩ h3 h4 => hK g' s' a' w' (by subst e; exact hN v h1 h2) h3
theorem AL.rdy {Q : Exit → S → Prop} {ops : Array Oper} {rest : List Oper} {v : V} {j : Nat} {b : Bool} (hg : o.guard = some (j, b)) (hy : yld ops s j = some b) (hd : dok s o = true) (h : RD c o s v) (hN : AL c ops rest Q (s.put o.dst v)) : AL c ops (o :: rest) Q s :=
  AL.yes hg hy (h.stepM hd hN).step
theorem AL.rpy {Q : Exit → S → Prop} {ops : Array Oper} {rest : List Oper} {v : V} {j : Nat} {b : Bool} (hg : o.guard = some (j, b)) (hy : yld ops s j = some b) (hd : dok s o = true) (h : RP c o s v) (hN : AL c ops rest Q (s.put o.dst v)) : AL c ops (o :: rest) Q s :=
  AL.rdy hg hy hd h.rd hN

/-- A nil slice becomes one that may grow. -/
theorem AW.adopt {Q : Exit → S → Prop} {code : Code} (t r sz : Nat) (ty : TypeId) (ht : fnd s.T t = some .nil) (hr : s.clean r = true) (h : AW c code Q ⟨s.n, (t, .own r sz 0 true) :: s.T, (r, ⟨ty, [], true, sz⟩) :: s.H, s.K⟩) : AW c code Q s := by
  intro g a w hs
  refine h g a w ?_
  have hq : ∀ b, qt c s.H g b → b < w.heap.size → qt c ((r, (⟨ty, [], true, sz⟩ : Row)) :: s.H) g b := by
    intro b hb _
    refine ⟨hb.1, fun k row hk hn => ?_⟩
    simp only [fnd] at hk
    split at hk
    · simp only [Option.some.injEq] at hk; subst hk; cases hn
    · exact hb.2 k row hk hn
  have hm : ∀ {v x}, VRep w (qt c s.H g) g v x → VRep w (qt c ((r, (⟨ty, [], true, sz⟩ : Row)) :: s.H) g) g v x := fun hv => hv.mono Cells.rfl hq (fun _ _ => rfl)
  have hfn : ∀ k row, fnd ((r, (⟨ty, [], true, sz⟩ : Row)) :: s.H) k = some row → row.nil = false → fnd s.H k = some row := by
    intro k row hk hn
    simp only [fnd] at hk
    split at hk
    · simp only [Option.some.injEq] at hk; subst hk; cases hn
    · exact hk
  refine ⟨hs.size, hs.defers, ?_, ?_, ?_, ?_, ?_, ?_, hs.low, hs.below⟩
  · intro i v hv
    simp only [fnd] at hv
    split at hv
    · rename_i e
      simp only [beq_iff_eq] at e
      subst e
      simp only [Option.some.injEq] at hv
      subst hv
      obtain ⟨x, h1, h2⟩ := hs.tmp _ _ ht
      refine ⟨x, h1, ?_⟩
      rw [VRep.p_eq h2]
      exact .ownNil r sz
    · obtain ⟨x, h1, h2⟩ := hs.tmp i v hv
      exact ⟨x, h1, hm h2⟩
  · intro k row hk hn
    simp only [fnd] at hk
    split at hk
    · simp only [Option.some.injEq] at hk; subst hk; rfl
    · exact hs.nul k row hk hn
  · intro k row hk hn
    obtain ⟨arr, h1, h2, h3⟩ := hs.obj k row (hfn k row hk hn) hn
    refine ⟨arr, h1, h2, fun j v hv => ?_⟩
    obtain ⟨x, h4, h5⟩ := h3 j v hv
    exact ⟨x, h4, hm h5⟩
  · intro j v x h1 h2
    exact hm (hs.keep j v x h1 h2)
  · intro k k' row row' h1 n1 h2 n2 h3
    exact hs.inj k k' row row' (hfn k row h1 n1) n1 (hfn k' row' h2 n2) n2 h3
  · intro k row h1 n1
    exact hs.base k row (hfn k row h1 n1) n1
/-- A slice of the call's own becomes plain data. -/
theorem Sim.freeze {g : Nat → Nat × Nat} {a : Act} {w : World} (hs : Sim c g s a w) {t r sz bt n : Nat} {f : Bool} {row : Row} {rows : List (List D)} (ht : fnd s.T t = some (.own r sz n f)) (hr : fnd s.H r = some row) (hf : row.nil = f) (hlen : rows.length = n) (hn : n * bt ≤ 140737488355328)
    (hrows : ∀ (i j : Nat) (l : List D) (u : D), rows[i]? = some l → l[j]? = some u → row.cells[i * sz + j]? = some (.d u)) : Sim c g ⟨s.n, (t, .d (.sl sz bt rows)) :: s.T, s.H.filter (fun x => x.1 != r), s.K⟩ a w := by
  have hfn : ∀ k row', fnd (s.H.filter (fun x => x.1 != r)) k = some row' → k ≠ r ∧ fnd s.H k = some row' := by
    intro k row' hk
    have e : k ≠ r := by rintro rfl; rw [fnd_filter_self] at hk; cases hk
    rw [fnd_filter r _ _ e] at hk
    exact ⟨e, hk⟩
  have hq : ∀ b, qt c s.H g b → b < w.heap.size → qt c (s.H.filter (fun x => x.1 != r)) g b := fun b hb _ => ⟨hb.1, fun k row' hk hn => hb.2 k row' (hfn k row' hk).2 hn⟩
  have hm : ∀ {v x}, VRep w (qt c s.H g) g v x → VRep w (qt c (s.H.filter (fun x => x.1 != r)) g) g v x := fun hv => hv.mono Cells.rfl hq (fun _ _ => rfl)
  refine ⟨hs.size, hs.defers, ?_, ?_, ?_, ?_, ?_, ?_, hs.low, hs.below⟩
  · intro i v hv
    simp only [fnd] at hv
    split at hv
    · rename_i e
      simp only [beq_iff_eq] at e
      subst e
      simp only [Option.some.injEq] at hv
      subst hv
      obtain ⟨x, h1, h2⟩ := hs.tmp _ _ ht
      refine ⟨x, h1, .d _ _ ?_⟩
      cases h2 with
      | own _ _ _ hle hcap =>
        obtain ⟨arr, h3, _, h4⟩ := hs.obj r row hr hf
        subst hlen
        have hob : ¬ c.out (g r).1 := fun h => by
          have h5 := hs.low _ h
          have h6 := hs.base r row hr hf
          omega
        refine .sl sz bt rows _ _ (g r).1 0 (fun i j => arr.getD (i * sz + j) undef) (by omega) (fun _ => ⟨rfl, ⟨hob, fun k row' hk hkn e => ?_⟩, (Array.getElem?_eq_some_iff.1 h3).1⟩) hn ?_ ?_
        · obtain ⟨k1, k2⟩ := hfn k row' hk
          exact k1 (hs.inj k r _ _ k2 hkn hr hf e)
        · intro i j l u hi hj
          obtain ⟨y, h5, h6⟩ := h4 _ _ (hrows i j l u hi hj)
          rw [Nat.zero_add, cell_of_row w _ _ _ _ _ h3, h5]
          simp [Array.getD_eq_getD_getElem?, h5]
        · intro i j l u hi hj
          obtain ⟨y, h5, h6⟩ := h4 _ _ (hrows i j l u hi hj)
          cases hm h6 with
          | d _ _ h7 => simpa [Array.getD_eq_getD_getElem?, h5] using h7
      | ownNil =>
        have : rows = [] := by simpa using hlen
        subst this
        exact .sl sz bt [] none 0 0 0 (fun _ _ => undef) (Nat.le_refl 0) (fun h => absurd rfl h) (by simp) (by simp) (by simp)
    · obtain ⟨x, h1, h2⟩ := hs.tmp i v hv
      exact ⟨x, h1, hm h2⟩
  · intro k row' hk hn
    exact hs.nul k row' (hfn k row' hk).2 hn
  · intro k row' hk hn
    obtain ⟨arr, h1, h2, h3⟩ := hs.obj k row' (hfn k row' hk).2 hn
    refine ⟨arr, h1, h2, fun j v hv => ?_⟩
    obtain ⟨x, h4, h5⟩ := h3 j v hv
    exact ⟨x, h4, hm h5⟩
  · intro j v x h1 h2
    exact hm (hs.keep j v x h1 h2)
  · intro k k' row row' h1 n1 h2 n2 h3
    exact hs.inj k k' row row' (hfn k row h1).2 n1 (hfn k' row' h2).2 n2 h3
  · intro k row h1 n1
    exact hs.base k row (hfn k row h1).2 n1
theorem AW.freeze {Q : Exit → S → Prop} {code : Code} (t bt : Nat) {r sz n : Nat} {f : Bool} {row : Row} (rows : List (List D)) (ht : fnd s.T t = some (.own r sz n f)) (hr : fnd s.H r = some row) (hf : row.nil = f) (hlen : rows.length = n) (hn : n * bt ≤ 140737488355328)
    (hrows : ∀ (i j : Nat) (l : List D) (u : D), rows[i]? = some l → l[j]? = some u → row.cells[i * sz + j]? = some (.d u)) (h : AW c code Q ⟨s.n, (t, .d (.sl sz bt rows)) :: s.T, s.H.filter (fun x => x.1 != r), s.K⟩) : AW c code Q s :=
  fun g a w hs => h g a w (hs.freeze ht hr hf hlen hn hrows)
theorem AL.freeze {Q : Exit → S → Prop} {ops : Array Oper} {l' : List Oper} (t bt : Nat) {r sz n : Nat} {f : Bool} {row : Row} (rows : List (List D)) (ht : fnd s.T t = some (.own r sz n f)) (hr : fnd s.H r = some row) (hf : row.nil = f) (hlen : rows.length = n) (hn : n * bt ≤ 140737488355328)
    (hrows : ∀ (i j : Nat) (l : List D) (u : D), rows[i]? = some l → l[j]? = some u → row.cells[i * sz + j]? = some (.d u)) (h : AL c ops l' Q ⟨s.n, (t, .d (.sl sz bt rows)) :: s.T, s.H.filter (fun x => x.1 != r), s.K⟩) : AL c ops l' Q s :=
  fun g a w hs => h g a w (hs.freeze ht hr hf hlen hn hrows)
theorem rows1 {l : List α} {f : α → D} {cells : List V} (h : cells = l.map (fun x => V.d (f x))) : ∀ (i j : Nat) (l' : List D) (u : D), (l.map (fun x => [f x]))[i]? = some l' → l'[j]? = some u → cells[i * 1 + j]? = some (.d u) := by
  intro i j l' u h1 h2
  rw [List.getElem?_map] at h1
  cases h3 : l[i]? with
  | none => rw [h3] at h1; cases h1
  | some x =>
    rw [h3] at h1
    simp only [Option.map_some, Option.some.injEq] at h1
    subst h1
    match j, h2 with
    | 0, h2 =>
      simp only [List.getElem?_cons_zero, Option.some.injEq] at h2
      subst h2 h
      simp [h3]
    | n + 1, h2 => simp at h2
end
end Go.Proofs.Ythlcginebeapdaa
namespace Go.Proofs.Ythlcginebeapdaa
open Go.RowKit
theorem inf3 : Inf Try.prog 3 1 8 (Value.int IntKind.i64 0) := by unfold Inf; kernel_rfl
theorem inf4 : Inf Try.prog 4 1 1 (Value.bool false) := by unfold Inf; kernel_rfl
theorem inf22 : Inf Try.prog 22 1 24 (Value.slice none 0 0) := by unfold Inf; kernel_rfl
theorem inf24 : Inf Try.prog 24 2 32 (.agg #[Value.int IntKind.i64 0, Value.slice none 0 0]) := by unfold Inf; kernel_rfl
theorem pl24 : Places Try.prog 24 [(0, 1), (1, 1)] := ⟨_, Try.underlying24, by kernel_rfl⟩
theorem inf48 : Inf Try.prog 48 1 24 (Value.slice none 0 0) := by unfold Inf; kernel_rfl
theorem inf50 : Inf Try.prog 50 2 32 (.agg #[Value.int IntKind.i64 0, Value.slice none 0 0]) := by unfold Inf; kernel_rfl
theorem pl50 : Places Try.prog 50 [(0, 1), (1, 1)] := ⟨_, Try.underlying50, by kernel_rfl⟩
theorem inf54 : Inf Try.prog 54 4 32 (.agg #[Value.int IntKind.i64 0, Value.int IntKind.i64 0, Value.int IntKind.i64 0, Value.int IntKind.i64 0]) := by unfold Inf; kernel_rfl
theorem pl54 : Places Try.prog 54 [(0, 1), (1, 1), (2, 1), (3, 1)] := ⟨_, Try.underlying54, by kernel_rfl⟩
theorem inf82 : Inf Try.prog 82 1 24 (Value.slice none 0 0) := by unfold Inf; kernel_rfl
theorem inf84 : Inf Try.prog 84 3 24 (.agg #[Value.int IntKind.i64 0, Value.int IntKind.i64 0, Value.int IntKind.i64 0]) := by unfold Inf; kernel_rfl
end Go.Proofs.Ythlcginebeapdaa
namespace Go.Proofs.Ythlcginebeapdaa
open Go.RowKit
set_option linter.unusedSimpArgs false
set_option linter.unusedVariables false

theorem fnd_zip : ∀ (l : List Nat) (vs : List V) (i : Nat) (v : V), fnd (l.zip vs) i = some v → ∃ j : Nat, l[j]? = some i ∧ vs[j]? = some v
  | [], vs, i, v, h => by simp [fnd] at h
  | k :: l, [], i, v, h => by simp [fnd] at h
  | k :: l, u :: vs, i, v, h => by
    simp only [List.zip_cons_cons, fnd] at h
    split at h
    · rename_i e
      simp only [beq_iff_eq] at e
      subst e
      simp only [Option.some.injEq] at h
      subst h
      exact ⟨0, rfl, rfl⟩
    · obtain ⟨j, h1, h2⟩ := fnd_zip l vs i v h
      exact ⟨j + 1, by simpa using h1, by simpa using h2⟩

/-- How the caller goes on: l, its temporaries that it has kept. -/
def QI (P : Program) (rs : List ResultVar) (n : Nat) (l : List Nat) (d : Option Tmp) (N : S → Prop) : Exit → S → Prop
  | .normal, s => ∃ vs, resL P s rs vs ∧ N (S.put ⟨n, l.zip s.K, s.H, s.K.drop l.length⟩ d (tupOf vs))
  | .ret, s => ∃ vs, resL P s rs vs ∧ N (S.put ⟨n, l.zip s.K, s.H, s.K.drop l.length⟩ d (tupOf vs))
  | _, _ => False

section
variable {c : Cx} {s : S} {o : Oper}

end
end Go.Proofs.Ythlcginebeapdaa
namespace Go.Proofs.Ythlcginebeapdaa
open Go.RowKit
set_option linter.unusedSimpArgs false
set_option linter.unusedVariables false

section
variable {P : Program} {ops : Array Oper} {Q : Exit → Act → World → Prop} {md : Region.Mode} {T : World → Prop} {need : Nat → Bool}

/-- What is listed has all it waits for listed. -/
def closedL (md : Region.Mode) (ops : Array Oper) (listed : Array Bool) : Prop := ∀ (j : Nat) (oj : Oper), ops[j]? = some oj → listed.getD j false = true → ∀ e ∈ oj.after, Region.binds md e = true → listed.getD e.on false = true
def reachB (md : Region.Mode) (ops : Array Oper) : Nat → Nat → Nat → Bool
  | 0, _, _ => false
  | n + 1, z, i =>
    match ops[z]? with
    | some oz => oz.after.any fun e => Region.binds md e && (e.on == i || reachB md ops n e.on i)
    | none => false
theorem reach_listed {listed : Array Bool} (hc : closedL md ops listed) {i : Nat} : ∀ (n z : Nat), reachB md ops n z i = true → listed.getD z false = true → listed.getD i false = true
  | 0, z, h, _ => by simp [reachB] at h
  | n + 1, z, h, hz => by
    simp only [reachB] at h
    split at h
    · rename_i oz ho
      obtain ⟨e, he, hb⟩ := Array.any_eq_true'.1 h
      simp only [Bool.and_eq_true, Bool.or_eq_true, beq_iff_eq] at hb
      have h1 := hc z oz ho hz e he hb.1
      rcases hb.2 with h2 | h2
      · rw [← h2]; exact h1
      · exact reach_listed hc n e.on h2 h1
    · cases h
theorem reach_ready {listed : Array Bool} (hc : closedL md ops listed) {n z i : Nat} (h : reachB md ops n z i = true) (hr : z ∈ Region.ready md ops listed) : listed.getD i false = true := by
  obtain ⟨_, oz, ho, hd⟩ := mem_ready.1 hr
  cases n with
  | zero => simp [reachB] at h
  | succ n =>
    simp only [reachB, ho] at h
    obtain ⟨e, he, hb⟩ := Array.any_eq_true'.1 h
    simp only [Bool.and_eq_true, Bool.or_eq_true, beq_iff_eq] at hb
    have h1 := hd e he hb.1
    rcases hb.2 with h2 | h2
    · rw [← h2]; exact h1
    · exact reach_listed hc n e.on h2 h1
theorem getD_set_mono {listed : Array Bool} {i k : Nat} (h : listed.getD k false = true) : (listed.setIfInBounds i true).getD k false = true := by
  rw [Array.getD_eq_getD_getElem?] at h ⊢
  rw [Array.getElem?_setIfInBounds]
  split
  · split
    · rfl
    · rename_i h1 h2
      subst h1
      rw [Array.getElem?_eq_none (by omega)] at h
      cases h
  · exact h
theorem closed_set {listed : Array Bool} (hc : closedL md ops listed) {i : Nat} (hr : i ∈ Region.ready md ops listed) : closedL md ops (listed.setIfInBounds i true) := by
  intro j oj hj hl e he hb
  by_cases hji : j = i
  · subst hji
    obtain ⟨_, oz, ho, hd⟩ := mem_ready.1 hr
    rw [ho] at hj
    simp only [Option.some.injEq] at hj
    subst hj
    exact getD_set_mono (hd e he hb)
  · refine getD_set_mono (hc j oj hj ?_ e he hb)
    rw [Array.getD_eq_getD_getElem?, Array.getElem?_setIfInBounds_ne (Ne.symm hji)] at hl
    rw [Array.getD_eq_getD_getElem?]
    exact hl

def anyN (P : Program) (md : Region.Mode) (ops : Array Oper) (Q : Exit → Act → World → Prop) (T : World → Prop) (need : Nat → Bool) : Nat → Array Bool → Act → World → Prop
  | 0, listed, a, w => Region.ready md ops listed = [] ∧ Q .normal a w
  | n + 1, listed, a, w => (Region.ready md ops listed = [] → Q .normal a w) ∧
      ∀ i ∈ Region.ready md ops listed, wpOp P ops Q i (fun a' w' => (need i = true → T w') ∧ anyN P md ops Q T need n (listed.setIfInBounds i true) a' w') a w
theorem any_of_anyN : ∀ (n : Nat) (listed : Array Bool) (a : Act) (w : World), anyN P md ops Q T need n listed a w → wpAny P md ops Q n listed a w
  | 0, _, _, _, h => h
  | n + 1, _, _, _, h => ⟨h.1, fun i hi => wpOp_mono (fun a' w' h' => any_of_anyN n _ a' w' h'.2) (h.2 i hi)⟩

theorem anyN_early {i N : Nat} {oi : Oper} {v : Value} (hz : ∀ j, j ≠ i → j < ops.size → need j = true ∨ reachB md ops N j i = true) (hi : ops[i]? = some oi) (hsel : ∀ (j : Nat) (o : Oper) cs b, ops[j]? = some o → o.op ≠ .select cs b)
    (hQ : ∀ c a w, Q (.panic c) (a.put oi.dst v) w → Q (.panic c) a w) (n : Nat) :
    ∀ (listed : Array Bool) (a : Act) (w : World), closedL md ops listed →
      (∀ j oj, ops[j]? = some oj → j ≠ i → listed.getD j true = false → (∀ e ∈ oj.after, Region.binds md e = true → e.on ≠ i) → oi.apart ops oj = true) →
      i ∈ Region.ready md ops listed → YieldsIf P ops T oi v a → T w →
      anyN P md ops Q T need n (listed.setIfInBounds i true) (a.put oi.dst v) w → anyN P md ops Q T need (n + 1) listed a w := by
  induction n with
  | zero =>
    intro listed a w hcl hfree hr hy hS H
    refine ⟨fun h => by rw [h] at hr; exact absurd hr List.not_mem_nil, fun j hj => ?_⟩
    by_cases hji : j = i
    · subst hji
      exact hy.wpOp hi hS ⟨fun _ => hS, H⟩
    · have hm := ready_mono hj hji
      rw [H.1] at hm
      exact absurd hm List.not_mem_nil
  | succ n ih =>
    intro listed a w hcl hfree hr hy hS H
    refine ⟨fun h => by rw [h] at hr; exact absurd hr List.not_mem_nil, fun j hj => ?_⟩
    by_cases hji : j = i
    · subst hji
      exact hy.wpOp hi hS ⟨fun _ => hS, H⟩
    · have hij : i ≠ j := fun h => hji h.symm
      have hnext := H.2 j (ready_mono hj hji)
      obtain ⟨hjl, oj, hoj, hdone⟩ := mem_ready.1 hj
      have hil := (mem_ready.1 hr).1
      have hil' : listed.getD i false = false := by
        rw [Array.getD_eq_getD_getElem?] at hil ⊢
        cases hl : listed[i]? with
        | none => rw [hl] at hil; cases hil
        | some b => rw [hl] at hil; exact hil
      have hno : ∀ e ∈ oj.after, Region.binds md e = true → e.on ≠ i := by
        intro e he hb hei
        have hd := hdone e he hb
        rw [hei, hil'] at hd
        cases hd
      have hnj : need j = true := by
        rcases hz j hji (Array.getElem?_eq_some_iff.1 hoj).1 with h | h
        · exact h
        · have := reach_ready hcl h hj
          rw [hil'] at this
          cases this
      have hstep := wpOp_putIf hoj (hfree j oj hoj hji hjl hno) (fun cs b => hsel i oi cs b hi) (fun cs b => hsel j oj cs b hoj) hQ hy hnext
      refine wpOp_mono (fun a' w' h3 => ?_) hstep
      obtain ⟨hy', hS', hrest⟩ := h3
      refine ⟨fun _ => hS' hnj, ih _ a' w' (closed_set hcl hj) ?_ (ready_mono hr hij) hy' (hS' hnj) ?_⟩
      · intro k ok hk hki hkl hkn
        refine hfree k ok hk hki ?_ hkn
        by_cases hjk : j = k
        · subst hjk
          exact hjl
        · rwa [getD_set_ne true hjk] at hkl
      · rw [Array.setIfInBounds_comm _ _ hji]
        exact hrest

/-- The operations in an order of ours: true: a read that may come early. -/
def ASeq (P : Program) (ops : Array Oper) (Q : Exit → Act → World → Prop) (T : World → Prop) (need : Nat → Bool) : List (Nat × Bool) → Act → World → Prop
  | [], a, w => Q .normal a w
  | (i, true) :: r, a, w => ∃ oi x, ops[i]? = some oi ∧ YieldsIf P ops T oi x a ∧ T w ∧ (∀ c a w, Q (.panic c) (a.put oi.dst x) w → Q (.panic c) a w) ∧ ASeq P ops Q T need r (a.put oi.dst x) w
  | (i, false) :: r, a, w => wpOp P ops Q i (fun a' w' => (need i = true → T w') ∧ ASeq P ops Q T need r a' w') a w
def okS (md : Region.Mode) (ops : Array Oper) (need : Nat → Bool) (N : Nat) : List (Nat × Bool) → Array Bool → Bool
  | [], listed => (Region.ready md ops listed).isEmpty
  | (i, true) :: r, listed => (Region.ready md ops listed).contains i && Region.free md ops listed i && ((List.range ops.size).all fun j => j == i || need j || reachB md ops N j i) && okS md ops need N r (listed.setIfInBounds i true)
  | (i, false) :: r, listed => (Region.ready md ops listed == [i]) && okS md ops need N r (listed.setIfInBounds i true)
theorem anyN_of_ASeq {N : Nat} (hsel : Region.noSelect ops = true) : ∀ (l : List (Nat × Bool)) (listed : Array Bool) (a : Act) (w : World), closedL md ops listed → okS md ops need N l listed = true → ASeq P ops Q T need l a w → anyN P md ops Q T need l.length listed a w
  | [], listed, a, w, _, hok, h => ⟨by simpa [okS] using hok, h⟩
  | (i, true) :: r, listed, a, w, hcl, hok, h => by
    simp only [okS, Bool.and_eq_true, List.all_eq_true, List.mem_range, Bool.or_eq_true, beq_iff_eq] at hok
    obtain ⟨⟨⟨h1, h2⟩, h3⟩, h4⟩ := hok
    obtain ⟨oi, x, g1, g2, g3, g4, g5⟩ := h
    have hr : i ∈ Region.ready md ops listed := by simpa using h1
    refine anyN_early (N := N) (fun j hj hlt => ?_) g1 (Region.noSelect_spec hsel) g4 r.length listed a w hcl (Region.free_spec g1 h2) hr g2 g3 (anyN_of_ASeq hsel r _ _ w (closed_set hcl hr) h4 g5)
    rcases h3 j hlt with (h | h) | h
    · exact absurd h hj
    · exact .inl h
    · exact .inr h
  | (i, false) :: r, listed, a, w, hcl, hok, h => by
    simp only [okS, Bool.and_eq_true, beq_iff_eq] at hok
    obtain ⟨h1, h2⟩ := hok
    have hr : i ∈ Region.ready md ops listed := by rw [h1]; exact List.mem_singleton.2 rfl
    refine ⟨fun h0 => (by rw [h0] at h1; cases h1), fun j hj => ?_⟩
    rw [h1] at hj
    obtain rfl := List.mem_singleton.1 hj
    exact wpOp_mono (fun a' w' h' => ⟨h'.1, anyN_of_ASeq hsel r _ a' w' (closed_set hcl hr) h2 h'.2⟩) h
end

section
variable {c : Cx} {s : S} {Q : Exit → S → Prop} {ops : Array Oper} {L : List Oper} {need : Nat → Bool} {l : List (Nat × Bool)} {i : Nat} {o : Oper}

/-- First come the reads. -/
def AD1 (c : Cx) (ops : Array Oper) (Q : Exit → S → Prop) (need : Nat → Bool) (l : List (Nat × Bool)) (s : S) : Prop := ∀ g a w, Sim c g s a w → ASeq c.P ops (QQ c Q) (Below w.heap.size w) need l a w
/-- Then what makes new memory. -/
def AD2 (c : Cx) (ops : Array Oper) (Q : Exit → S → Prop) (need : Nat → Bool) (l : List (Nat × Bool)) (s : S) : Prop := ∀ W g a w, Sim c g s a w → Below W.heap.size W w → ASeq c.P ops (QQ c Q) (Below W.heap.size W) need l a w
/-- Then what writes. -/
def AD3 (c : Cx) (ops : Array Oper) (Q : Exit → S → Prop) (need : Nat → Bool) (l : List (Nat × Bool)) (s : S) : Prop := ∀ (T : World → Prop) g a w, Sim c g s a w → ASeq c.P ops (QQ c Q) T need l a w
def noP (Q : Exit → S → Prop) : Prop := ∀ ch s, Q (.panic ch) s → False
theorem QQ_noP (h : noP Q) (d : Option Tmp) (x : Value) : ∀ ch a w, QQ c Q (.panic ch) (Act.put a d x) w → QQ c Q (.panic ch) a w := fun ch a w ⟨g, s, h1, _⟩ => (h ch s h1).elim

theorem AW.draw {id : Nat} {l : List Oper} (order : List (Nat × Bool)) (need : Nat → Bool) (N : Nat) (hm : c.P.follows .mixedOrders = true) (hsel : Region.noSelect l.toArray = true) (hlen : order.length = l.length)
    (hok : okS .any l.toArray need N order (Array.replicate l.length false) = true) (h : AD1 c l.toArray Q need order s) : AW c (.region id l.toArray true) Q s := by
  intro g a w hs
  refine wp_region_any hm ?_
  have hs' : Sim c g s a w.drew := hs.move (Below.drew (Below.refl _ _))
  have := any_of_anyN _ _ _ _ (anyN_of_ASeq (P := c.P) (Q := QQ c Q) (T := Below w.drew.heap.size w.drew) (need := need) (md := .any) hsel order (Array.replicate l.length false) a w.drew (by
    intro j oj _ hl
    rw [Array.getD_eq_getD_getElem?, Array.getElem?_replicate] at hl
    split at hl <;> simp at hl) hok (h g a _ hs'))
  rw [hlen] at this
  simpa using this

theorem wpOp_of {P : Program} {Qc : Exit → Act → World → Prop} {a : Act} {w : World} {K : Act → World → Prop} (hi : ops[i]? = some o) (hg : o.guard = none) (h : o.wp P a w K Qc) : wpOp P ops Qc i K a w := by
  unfold wpOp
  simp only [hi, Region.wanted, hg, if_true]
  exact .inl h
theorem wpOp_ofy {P : Program} {Qc : Exit → Act → World → Prop} {a : Act} {w : World} {K : Act → World → Prop} (hi : ops[i]? = some o) (hw : Region.wanted o (yielded ops a.tmps) = true) (h : o.wp P a w K Qc) : wpOp P ops Qc i K a w := by
  unfold wpOp
  simp only [hi, hw, if_true]
  exact .inl h
theorem AD1.rd {v : V} (hi : L[i]? = some o) (hg : o.guard = none) (hd : dok s o = true) (hp : noP Q) (h : RD c o s v) (hN : AD1 c L.toArray Q need l (s.put o.dst v)) : AD1 c L.toArray Q need ((i, true) :: l) s := fun g a w hs => by
  obtain ⟨x, h1, h2⟩ := h g a w hs
  exact ⟨o, x, by simpa using hi, .inl ⟨by simp [Region.wanted, hg], h2⟩, Below.refl _ _, QQ_noP hp _ _, hN g _ w (hs.put o.dst (dok_spec hd) h1)⟩
theorem AD1.rp {v : V} (hi : L[i]? = some o) (hg : o.guard = none) (hd : dok s o = true) (hp : noP Q) (h : RP c o s v) (hN : AD1 c L.toArray Q need l (s.put o.dst v)) : AD1 c L.toArray Q need ((i, true) :: l) s := AD1.rd hi hg hd hp h.rd hN
theorem AD1.rdy {v : V} {j : Nat} {b : Bool} (hi : L[i]? = some o) (hg : o.guard = some (j, b)) (hy : yld L.toArray s j = some b) (hd : dok s o = true) (hp : noP Q) (h : RD c o s v) (hN : AD1 c L.toArray Q need l (s.put o.dst v)) : AD1 c L.toArray Q need ((i, true) :: l) s := fun g a w hs => by
  obtain ⟨x, h1, h2⟩ := h g a w hs
  exact ⟨o, x, by simpa using hi, .inl ⟨by simp [Region.wanted, hg, yld_spec hy hs], h2⟩, Below.refl _ _, QQ_noP hp _ _, hN g _ w (hs.put o.dst (dok_spec hd) h1)⟩
theorem AD1.rpy {v : V} {j : Nat} {b : Bool} (hi : L[i]? = some o) (hg : o.guard = some (j, b)) (hy : yld L.toArray s j = some b) (hd : dok s o = true) (hp : noP Q) (h : RP c o s v) (hN : AD1 c L.toArray Q need l (s.put o.dst v)) : AD1 c L.toArray Q need ((i, true) :: l) s := AD1.rdy hi hg hy hd hp h.rd hN
theorem AD1.no {j : Nat} {b b' : Bool} (hi : L[i]? = some o) (hg : o.guard = some (j, b)) (hy : yld L.toArray s j = some b') (hb : (b' == b) = false) (hd : dok s o = true) (hp : noP Q) (hN : AD1 c L.toArray Q need l (s.put o.dst .junk)) : AD1 c L.toArray Q need ((i, true) :: l) s := fun g a w hs =>
  ⟨o, undef, by simpa using hi, .inr ⟨by simp only [Region.wanted, hg, yld_spec hy hs]; simpa using hb, rfl⟩, Below.refl _ _, QQ_noP hp _ _, hN g _ w (hs.put o.dst (dok_spec hd) (.junk _))⟩
theorem AD1.go (h : AD2 c L.toArray Q need l s) : AD1 c L.toArray Q need l s := fun g a w hs => h w g a w hs (Below.refl _ _)
theorem AD1.nil (h : Q .normal s) : AD1 c L.toArray Q need [] s := fun g a w hs => ⟨g, s, h, hs⟩
theorem AD2.rp {v : V} (hi : L[i]? = some o) (hg : o.guard = none) (hd : dok s o = true) (hp : noP Q) (h : RP c o s v) (hN : AD2 c L.toArray Q need l (s.put o.dst v)) : AD2 c L.toArray Q need ((i, true) :: l) s := fun W g a w hs hb => by
  obtain ⟨x, h1, h2⟩ := h g a w hs
  exact ⟨o, x, by simpa using hi, .inl ⟨by simp [Region.wanted, hg], fun w' _ => h2 w'⟩, hb, QQ_noP hp _ _, hN W g _ w (hs.put o.dst (dok_spec hd) h1) hb⟩
theorem AD2.stepM (hi : L[i]? = some o) (hg : o.guard = none) (h : StepM c o s (AD2 c L.toArray Q need l)) : AD2 c L.toArray Q need ((i, false) :: l) s := fun W g a w hs hb =>
  wpOp_of (by simpa using hi) hg (h g a w hs _ _ fun g' s' a' w' h1 h2 h3 => ⟨fun _ => hb.trans (h3.mono hb.size), h1 W g' a' w' h2 (hb.trans (h3.mono hb.size))⟩)
theorem AD2.sm {X : S} (hi : L[i]? = some o) (hg : o.guard = none) (h : StepM c o s (fun s' => s' = X)) (hN : AD2 c L.toArray Q need l X) : AD2 c L.toArray Q need ((i, false) :: l) s :=
  AD2.stepM hi hg fun g a w hs K Q' hK => h g a w hs K Q' fun g' s' a' w' e h1 h2 => hK g' s' a' w' (by subst e; exact hN) h1 h2
theorem AD2.call {post : V → Prop} (hi : L[i]? = some o) (hg : o.guard = none) (h : StepM c o s (fun s' => ∃ v, post v ∧ v.pure ∧ s' = s.put o.dst v)) (hN : ∀ v, post v → v.pure → AD2 c L.toArray Q need l (s.put o.dst v)) : AD2 c L.toArray Q need ((i, false) :: l) s :=
  AD2.stepM hi hg fun g a w hs K Q' hK => h g a w hs K Q' fun g' s' a' w' ⟨v, h1, h2, e⟩ h3 h4 => hK g' s' a' w' (by subst e; exact hN v h1 h2) h3 h4
theorem AD2.rd1 {v : V} (hi : L[i]? = some o) (hg : o.guard = none) (hd : dok s o = true) (h : RD c o s v) (hN : AD2 c L.toArray Q need l (s.put o.dst v)) : AD2 c L.toArray Q need ((i, false) :: l) s :=
  AD2.stepM hi hg (h.stepM hd hN)
theorem AD2.rp1 {v : V} (hi : L[i]? = some o) (hg : o.guard = none) (hd : dok s o = true) (h : RP c o s v) (hN : AD2 c L.toArray Q need l (s.put o.dst v)) : AD2 c L.toArray Q need ((i, false) :: l) s := AD2.rd1 hi hg hd h.rd hN
theorem AD2.rpy {v : V} {j : Nat} {b : Bool} (hi : L[i]? = some o) (hg : o.guard = some (j, b)) (hy : yld L.toArray s j = some b) (hd : dok s o = true) (hp : noP Q) (h : RP c o s v) (hN : AD2 c L.toArray Q need l (s.put o.dst v)) : AD2 c L.toArray Q need ((i, true) :: l) s := fun W g a w hs hb => by
  obtain ⟨x, h1, h2⟩ := h g a w hs
  exact ⟨o, x, by simpa using hi, .inl ⟨by simp [Region.wanted, hg, yld_spec hy hs], fun w' _ => h2 w'⟩, hb, QQ_noP hp _ _, hN W g _ w (hs.put o.dst (dok_spec hd) h1) hb⟩
theorem AD2.no {j : Nat} {b b' : Bool} (hi : L[i]? = some o) (hg : o.guard = some (j, b)) (hy : yld L.toArray s j = some b') (hb' : (b' == b) = false) (hd : dok s o = true) (hp : noP Q) (hN : AD2 c L.toArray Q need l (s.put o.dst .junk)) : AD2 c L.toArray Q need ((i, true) :: l) s := fun W g a w hs hb =>
  ⟨o, undef, by simpa using hi, .inr ⟨by simp only [Region.wanted, hg, yld_spec hy hs]; simpa using hb', rfl⟩, hb, QQ_noP hp _ _, hN W g _ w (hs.put o.dst (dok_spec hd) (.junk _)) hb⟩
theorem AD2.no1 {j : Nat} {b b' : Bool} (hi : L[i]? = some o) (hg : o.guard = some (j, b)) (hy : yld L.toArray s j = some b') (hb' : (b' == b) = false) (hd : dok s o = true) (hN : AD2 c L.toArray Q need l (s.put o.dst .junk)) : AD2 c L.toArray Q need ((i, false) :: l) s := fun W g a w hs hb => by
  have hw : ¬ Region.wanted o (yielded L.toArray a.tmps) = true := by simp only [Region.wanted, hg, yld_spec hy hs]; simpa using hb'
  show wpOp c.P L.toArray (QQ c Q) i _ a w
  unfold wpOp
  simp only [List.getElem?_toArray, hi]
  rw [if_neg hw]
  exact ⟨fun _ => hb, hN W g _ w (hs.put o.dst (dok_spec hd) (.junk _)) hb⟩
theorem AD2.stepMy {j : Nat} {b : Bool} (hi : L[i]? = some o) (hg : o.guard = some (j, b)) (hy : yld L.toArray s j = some b) (h : StepM c o s (AD2 c L.toArray Q need l)) : AD2 c L.toArray Q need ((i, false) :: l) s := fun W g a w hs hb =>
  wpOp_ofy (by simpa using hi) (by simp [Region.wanted, hg, yld_spec hy hs]) (h g a w hs _ _ fun g' s' a' w' h1 h2 h3 => ⟨fun _ => hb.trans (h3.mono hb.size), h1 W g' a' w' h2 (hb.trans (h3.mono hb.size))⟩)
theorem AD2.cally {post : V → Prop} {j : Nat} {b : Bool} (hi : L[i]? = some o) (hg : o.guard = some (j, b)) (hy : yld L.toArray s j = some b) (h : StepM c o s (fun s' => ∃ v, post v ∧ v.pure ∧ s' = s.put o.dst v)) (hN : ∀ v, post v → v.pure → AD2 c L.toArray Q need l (s.put o.dst v)) : AD2 c L.toArray Q need ((i, false) :: l) s :=
  AD2.stepMy hi hg hy fun g a w hs K Q' hK => h g a w hs K Q' fun g' s' a' w' ⟨v, h1, h2, e⟩ h3 h4 => hK g' s' a' w' (by subst e; exact hN v h1 h2) h3 h4
theorem AD2.rd1y {v : V} {j : Nat} {b : Bool} (hi : L[i]? = some o) (hg : o.guard = some (j, b)) (hy : yld L.toArray s j = some b) (hd : dok s o = true) (h : RD c o s v) (hN : AD2 c L.toArray Q need l (s.put o.dst v)) : AD2 c L.toArray Q need ((i, false) :: l) s :=
  AD2.stepMy hi hg hy (h.stepM hd hN)
theorem AD2.rp1y {v : V} {j : Nat} {b : Bool} (hi : L[i]? = some o) (hg : o.guard = some (j, b)) (hy : yld L.toArray s j = some b) (hd : dok s o = true) (h : RP c o s v) (hN : AD2 c L.toArray Q need l (s.put o.dst v)) : AD2 c L.toArray Q need ((i, false) :: l) s := AD2.rd1y hi hg hy hd h.rd hN
theorem AD2.go (h : AD3 c L.toArray Q need l s) : AD2 c L.toArray Q need l s := fun W g a w hs _ => h _ g a w hs
theorem AD2.nil (h : Q .normal s) : AD2 c L.toArray Q need [] s := fun W g a w hs _ => ⟨g, s, h, hs⟩
theorem AD3.step (hi : L[i]? = some o) (hg : o.guard = none) (hn : need i = false) (h : Step c o s (AD3 c L.toArray Q need l)) : AD3 c L.toArray Q need ((i, false) :: l) s := fun T g a w hs =>
  wpOp_of (by simpa using hi) hg (h g a w hs _ _ fun g' s' a' w' h1 h2 => ⟨fun h0 => (by rw [hn] at h0; cases h0), h1 T g' a' w' h2⟩)
theorem AD3.st {X : S} (hi : L[i]? = some o) (hg : o.guard = none) (hn : need i = false) (h : Step c o s (fun s' => s' = X)) (hN : AD3 c L.toArray Q need l X) : AD3 c L.toArray Q need ((i, false) :: l) s :=
  AD3.step hi hg hn fun g a w hs K Q' hK => h g a w hs K Q' fun g' s' a' w' e h1 => hK g' s' a' w' (by subst e; exact hN) h1
theorem AD3.rd1 {v : V} (hi : L[i]? = some o) (hg : o.guard = none) (hn : need i = false) (hd : dok s o = true) (h : RD c o s v) (hN : AD3 c L.toArray Q need l (s.put o.dst v)) : AD3 c L.toArray Q need ((i, false) :: l) s :=
  AD3.step hi hg hn (h.stepM hd hN).step
theorem AD3.rp1 {v : V} (hi : L[i]? = some o) (hg : o.guard = none) (hn : need i = false) (hd : dok s o = true) (h : RP c o s v) (hN : AD3 c L.toArray Q need l (s.put o.dst v)) : AD3 c L.toArray Q need ((i, false) :: l) s := AD3.rd1 hi hg hn hd h.rd hN
theorem AD3.sm {X : S} (hi : L[i]? = some o) (hg : o.guard = none) (hn : need i = false) (h : StepM c o s (fun s' => s' = X)) (hN : AD3 c L.toArray Q need l X) : AD3 c L.toArray Q need ((i, false) :: l) s := AD3.st hi hg hn h.step hN
theorem AD3.nil (h : Q .normal s) : AD3 c L.toArray Q need [] s := fun T g a w hs => ⟨g, s, h, hs⟩
end
end Go.Proofs.Ythlcginebeapdaa
namespace Go.Proofs.Ythlcginebeapdaa
open Go.RowKit
set_option linter.unusedSimpArgs false
set_option linter.unusedVariables false

def arOk (n : Int) (a : Ar) : Bool := decide ((0 ≤ a.i ∧ a.i ≤ 1000) ∧ (0 ≤ a.o ∧ a.o ≤ 1000) ∧ (0 ≤ a.w ∧ a.w ≤ 1000000000) ∧ 0 ≤ a.t ∧ a.t < n)
theorem arOk_yes {n : Int} {a : Ar} (h : (0 ≤ a.i ∧ a.i ≤ 1000) ∧ (0 ≤ a.o ∧ a.o ≤ 1000) ∧ (0 ≤ a.w ∧ a.w ≤ 1000000000) ∧ 0 ≤ a.t ∧ a.t < n) : arOk n a = true := by simp only [arOk, h, decide_true, and_self]
theorem arOk_no {n : Int} {a : Ar} (h : ¬ ((0 ≤ a.i ∧ a.i ≤ 1000) ∧ (0 ≤ a.o ∧ a.o ≤ 1000) ∧ (0 ≤ a.w ∧ a.w ≤ 1000000000) ∧ 0 ≤ a.t ∧ a.t < n)) : arOk n a = false := by simp only [arOk, h, decide_false]
def finOk (x : Int) : Bool := decide (0 ≤ x ∧ x ≤ 1000000001)
def stOk (n : Int) (s : St) : Bool := finOk s.fin && s.arcs.all (arOk n)
def arcN (l : List St) : Nat := (l.map fun s => s.arcs.length).sum
def startOk (m : Mach) : Prop := -1 ≤ m.start ∧ m.start < m.states.length
instance (m : Mach) : Decidable (startOk m) := inferInstanceAs (Decidable (_ ∧ _))
/-- What is wrong with a machine: 1 a size, 2 a number out of range, 0 nothing. -/
def machE (m : Mach) : Int := if 60 < m.states.length ∨ 400 < arcN m.states then 1 else if startOk m ∧ m.states.all (stOk m.states.length) = true then 0 else 2

theorem arcN_snoc (l : List St) (s : St) : arcN (l ++ [s]) = arcN l + s.arcs.length := by simp [arcN]
theorem all_snoc' {α : Type} {xs : List α} {k : Nat} {x : α} {p : α → Bool} (hx : xs[k]? = some x) (h : (xs.take k).all p = true) (hp : p x = true) : (xs.take (k + 1)).all p = true := by
  rw [take_snoc hx, List.all_append, h]; simp [hp]
theorem all_not {α : Type} {xs : List α} {k : Nat} {x : α} {p : α → Bool} (hx : xs[k]? = some x) (hp : p x = false) : xs.all p = false := by
  rw [Bool.eq_false_iff]
  intro h
  have := List.all_eq_true.1 h x (List.mem_of_getElem? hx)
  rw [hp] at this
  exact absurd this (by simp)
theorem stOk_arc {n : Int} {s : St} {k : Nat} {a : Ar} (h : s.arcs[k]? = some a) (ha : arOk n a = false) : stOk n s = false := by
  simp only [stOk, all_not h ha, Bool.and_false]
theorem stOk_fin {n : Int} {s : St} (h : finOk s.fin = false) : stOk n s = false := by simp only [stOk, h, Bool.false_and]
theorem stOk_arcs {n : Int} {s : St} (h : s.arcs.all (arOk n) = false) : stOk n s = false := by simp only [stOk, h, Bool.and_false]
theorem stOk_yes {n : Int} {s : St} (h : finOk s.fin = true) (g : s.arcs.all (arOk n) = true) : stOk n s = true := by simp only [stOk, h, g, Bool.and_self]
theorem machE_size {st : Int} {sts : List St} (h : 60 < sts.length ∨ 400 < arcN sts) : machE ⟨st, sts⟩ = 1 := by unfold machE; rw [if_pos h]
theorem machE_start {st : Int} {sts : List St} {len : Nat} (hl : sts.length = len) (h1 : ¬ 60 < len) (h2 : ¬ 400 < arcN sts) (h3 : ¬ (-1 ≤ st ∧ st < len)) : machE ⟨st, sts⟩ = 2 := by
  subst hl
  unfold machE startOk
  rw [if_neg (by simp only; omega), if_neg (fun h => h3 h.1)]
theorem machE_state {st : Int} {sts : List St} {len k : Nat} {x : St} (hl : sts.length = len) (h1 : ¬ 60 < len) (h2 : ¬ 400 < arcN sts) (h3 : sts[k]? = some x) (h4 : stOk len x = false) : machE ⟨st, sts⟩ = 2 := by
  subst hl
  unfold machE
  rw [if_neg (by simp only; omega), if_neg (fun h => by have := h.2; simp only [all_not h3 h4] at this; exact absurd this (by simp))]
theorem machE_good {st : Int} {sts : List St} {len k : Nat} (hl : sts.length = len) (h1 : ¬ 60 < len) (h2 : ¬ 400 < arcN sts) (h3 : -1 ≤ st ∧ st < len) (hk : ¬ k < len) (h4 : (sts.take k).all (stOk len) = true) : machE ⟨st, sts⟩ = 0 := by
  subst hl
  rw [List.take_of_length_le (by omega)] at h4
  unfold machE startOk
  rw [if_neg (by simp only; omega), if_pos ⟨h3, h4⟩]
/-- A machine with which nothing is wrong. -/
theorem machE_zero {m : Mach} (h : machE m = 0) : m.states.length ≤ 60 ∧ arcN m.states ≤ 400 ∧ (-1 ≤ m.start ∧ m.start < m.states.length) ∧ ∀ s ∈ m.states, finOk s.fin = true ∧ ∀ a ∈ s.arcs, arOk m.states.length a = true := by
  unfold machE at h
  by_cases h1 : 60 < m.states.length ∨ 400 < arcN m.states
  · rw [if_pos h1] at h; exact absurd h (by decide)
  · rw [if_neg h1] at h
    by_cases h2 : startOk m ∧ m.states.all (stOk m.states.length) = true
    · refine ⟨by omega, by omega, h2.1, fun s hs => ?_⟩
      have h3 := List.all_eq_true.1 h2.2 s hs
      simp only [stOk, Bool.and_eq_true] at h3
      exact ⟨h3.1, fun a ha => List.all_eq_true.1 h3.2 a ha⟩
    · rw [if_neg h2] at h; exact absurd h (by decide)
theorem arcN_full {sts : List St} {len k : Nat} (hl : sts.length = len) (hk : ¬ k < len) : arcN (sts.take k) = arcN sts := by rw [List.take_of_length_le (by omega)]


abbrev arD (a : Ar) : List D := [.p (.int .i64 a.i), .p (.int .i64 a.o), .p (.int .i64 a.w), .p (.int .i64 a.t)]
abbrev arsD (l : List Ar) : D := .sl 4 32 (l.map arD)
abbrev stD (s : St) : List D := [.p (.int .i64 s.fin), arsD s.arcs]
abbrev stsD (l : List St) : D := .sl 2 32 (l.map stD)
abbrev mV (m : Mach) : V := .agg [.i m.start, .d (stsD m.states)]
abbrev intsD (l : List Int) : D := .sl 1 8 (l.map fun x => [D.p (.int .i64 x)])
theorem DRep.bound {w : World} {q : Nat → Prop} {sz bt : Nat} {rows : List (List D)} {v : Value} (h : DRep w q (.sl sz bt rows) v) : rows.length * bt ≤ 140737488355328 := by
  cases h with | sl _ _ _ _ _ _ _ _ _ _ hl => exact hl
theorem DRep.row {w : World} {q : Nat → Prop} {sz bt : Nat} {rows : List (List D)} {v : Value} (h : DRep w q (.sl sz bt rows) v) {i j : Nat} {row : List D} {u : D} (hi : rows[i]? = some row) (hj : row[j]? = some u) : ∃ y, DRep w q u y := by
  cases h with | sl _ _ _ _ _ _ _ _ _ _ hl hc hr => exact ⟨_, hr i j row u hi hj⟩
/-- No machine in memory is larger than memory. -/
theorem Fn.mach {P : Program} {f : FuncId} {args : List V} {post : V → Prop} (m : Mach) (j : Nat) (hj : args[j]? = some (mV m)) (h : m.states.length ≤ 4398046511104 → (∀ x ∈ m.states, x.arcs.length ≤ 4398046511104) → Fn P f args post) : Fn P f args post := by
  intro w out g xs ho hx
  have hlt : j < xs.length := by rw [← hx.1]; exact (List.getElem?_eq_some_iff.1 hj).1
  have hv := hx.2 j _ _ hj (List.getElem?_eq_getElem hlt)
  generalize xs[j] = y at hv
  cases hv with
  | agg _ cs hl hh =>
    have hc : 1 < cs.length := by simp at hl; omega
    have h1 := hh 1 _ cs[1] rfl (List.getElem?_eq_getElem hc)
    cases h1 with
    | d _ _ h2 =>
      have h3 := h2.bound
      simp only [List.length_map] at h3
      refine h (by omega) (fun x hx => ?_) w out g xs ho hx
      obtain ⟨i, hi⟩ := List.getElem?_of_mem hx
      obtain ⟨z, h4⟩ := h2.row (i := i) (j := 1) (row := stD x) (by simp [hi]) rfl
      have h5 := h4.bound
      simp only [List.length_map] at h5
      omega
/-- No slice in memory is larger than memory. -/
theorem Fn.sl {P : Program} {f : FuncId} {args : List V} {post : V → Prop} (j : Nat) {sz bt : Nat} {rows : List (List D)} (hj : args[j]? = some (.d (.sl sz bt rows))) (h : rows.length * bt ≤ 140737488355328 → Fn P f args post) : Fn P f args post := by
  intro w out g xs ho hx
  have hlt : j < xs.length := by rw [← hx.1]; exact (List.getElem?_eq_some_iff.1 hj).1
  have hv := hx.2 j _ _ hj (List.getElem?_eq_getElem hlt)
  generalize xs[j] = y at hv
  cases hv with
  | d _ _ h2 => exact h h2.bound w out g xs ho hx
theorem get_lt {α : Type} {l : List α} {k n : Nat} (hl : l.length = n) (h : k < n) : ∃ x, l[k]? = some x := ⟨l[k], List.getElem?_eq_getElem (by omega)⟩
end Go.Proofs.Ythlcginebeapdaa
namespace Go.Proofs.Ythlcginebeapdaa
open Go.RowKit
set_option linter.unusedSimpArgs false
set_option linter.unusedVariables false

theorem DRep.of_sl {α : Type} {w : World} {q : Nat → Prop} {sz bt : Nat} {cells : α → List Value} {enc : α → List D} {v : Value} {l : List α} (h : SlAt w sz bt cells v l) (hq : ∀ b, q b) (hsz : 0 < sz) (he : ∀ x, (enc x).length ≤ sz) (hc : ∀ x, (cells x).length = sz)
    (hr : ∀ x ∈ l, ∀ (j : Nat) (u : D) (y : Value), (enc x)[j]? = some u → (cells x)[j]? = some y → DRep w q u y) : DRep w q (.sl sz bt (l.map enc)) v := by
  obtain ⟨a, cap, rfl, hl, hn, hat⟩ := h
  by_cases h0 : l = []
  · subst h0
    have := DRep.sl (w := w) (q := q) sz bt [] a cap 0 0 (fun _ _ => undef) (Nat.zero_le _) (fun h => absurd rfl h) (by simp) (by simp) (by simp)
    simpa using this
  · have hpos : 0 < l.length := by cases l with | nil => exact absurd rfl h0 | cons => simp
    obtain ⟨b, o, x0, rfl, _, hc0⟩ := hat 0 hpos
    have hat' : ∀ i, i < l.length → ∀ x, l[i]? = some x → ∀ j, j < sz → w.cell? ⟨b, o + i * sz + j, none⟩ = (cells x)[j]? := by
      intro i hi x hx j hj
      obtain ⟨b', o', x', hb, hx', hcell⟩ := hat i hi
      simp only [Option.some.injEq, Addr.mk.injEq, and_true] at hb
      obtain ⟨rfl, rfl⟩ := hb
      rw [hx] at hx'
      simp only [Option.some.injEq] at hx'
      subst hx'
      exact hcell j hj
    have hb : b < w.heap.size := by
      have h1 := hat' 0 hpos l[0] (List.getElem?_eq_getElem hpos) 0 hsz
      rw [List.getElem?_eq_getElem (by rw [hc]; omega)] at h1
      exact World.block_lt_of_cell? w _ h1
    have key := DRep.sl (w := w) (q := q) sz bt (l.map enc) (some ⟨b, o, none⟩) cap b o (fun i j => ((l[i]?.map cells).getD []).getD j undef) (by simpa using hn.2) (fun _ => ⟨rfl, hq b, hb⟩) (by simpa using hl) (by
      intro i j row u hi hj
      rw [List.getElem?_map] at hi
      cases hx : l[i]? with
      | none => rw [hx] at hi; cases hi
      | some x =>
        rw [hx] at hi
        simp only [Option.map_some, Option.some.injEq] at hi
        subst hi
        have hj' : j < sz := Nat.lt_of_lt_of_le (List.getElem?_eq_some_iff.1 hj).1 (he x)
        rw [hat' i (List.getElem?_eq_some_iff.1 hx).1 x hx j hj']
        rw [List.getElem?_eq_getElem (by rw [hc]; exact hj')]
        simp [List.getD_eq_getElem?_getD, List.getElem?_eq_getElem (show j < (cells x).length by rw [hc]; exact hj')]) (by
      intro i j row u hi hj
      rw [List.getElem?_map] at hi
      cases hx : l[i]? with
      | none => rw [hx] at hi; cases hi
      | some x =>
        rw [hx] at hi
        simp only [Option.map_some, Option.some.injEq] at hi
        subst hi
        have hj' : j < sz := Nat.lt_of_lt_of_le (List.getElem?_eq_some_iff.1 hj).1 (he x)
        refine hr x (List.mem_of_getElem? hx) j u _ hj ?_
        simp [List.getD_eq_getElem?_getD, List.getElem?_eq_getElem (show j < (cells x).length by rw [hc]; exact hj')])
    simpa using key

theorem rep_arcs {w : World} {q : Nat → Prop} {v : Value} {l : List Ar} (h : ArcsAt w v l) (hq : ∀ b, q b) : DRep w q (arsD l) v :=
  DRep.of_sl h hq (by omega) (fun _ => by simp) arCells_len (fun x _ j u y hu hy => by
    match j, hu, hy with
    | 0, hu, hy => simp [arCells] at hu hy; subst hu hy; exact .p _
    | 1, hu, hy => simp [arCells] at hu hy; subst hu hy; exact .p _
    | 2, hu, hy => simp [arCells] at hu hy; subst hu hy; exact .p _
    | 3, hu, hy => simp [arCells] at hu hy; subst hu hy; exact .p _
    | n + 4, hu, hy => simp at hu)
theorem rep_mach {w : World} {q : Nat → Prop} {g : Nat → Nat × Nat} {v : Value} {m : Mach} (h : MachAt w v m) (hq : ∀ b, q b) : VRep w q g (mV m) v := by
  obtain ⟨sv, rfl, ts, hts, hs, hall⟩ := h
  have h2 : DRep w q (stsD m.states) sv := by
    have := DRep.of_sl (enc := fun x : Int × Value × List Ar => [D.p (.int .i64 x.1), arsD x.2.2]) hs hq (by omega) (fun _ => by simp) stCells_len (fun x hx j u y hu hy => by
      match j, hu, hy with
      | 0, hu, hy => simp [stCells] at hu hy; subst hu hy; exact .p _
      | 1, hu, hy => simp [stCells] at hu hy; subst hu hy; exact rep_arcs (hall x hx) hq
      | n + 2, hu, hy => simp at hu)
    rw [hts]
    simpa [stsD, stD, List.map_map, Function.comp_def] using this
  refine .agg [.i m.start, .d (stsD m.states)] [.int .i64 m.start, sv] rfl fun j u y hu hy => ?_
  match j, hu, hy with
  | 0, hu, hy => simp at hu hy; subst hu hy; exact .d _ _ (.p _)
  | 1, hu, hy => simp at hu hy; subst hu hy; exact .d _ _ h2
  | n + 2, hu, hy => simp at hu
theorem reps_nil {w : World} {q : Nat → Prop} {g : Nat → Nat × Nat} : VReps w q g [] [] := ⟨rfl, by simp⟩
theorem reps_cons {w : World} {q : Nat → Prop} {g : Nat → Nat × Nat} {v : V} {x : Value} {vs : List V} {xs : List Value} (h : VRep w q g v x) (hs : VReps w q g vs xs) : VReps w q g (v :: vs) (x :: xs) :=
  ⟨by simp [hs.1], fun j u y hu hy => by
    cases j with
    | zero => simp at hu hy; subst hu hy; exact h
    | succ j => exact hs.2 j u y (by simpa using hu) (by simpa using hy)⟩
/-- A law that answers true. -/
theorem Fn.law {P : Program} {f : FuncId} {args : List V} {xs : List Value} {w : World} (h : Fn P f args (fun v => v = .b true)) (hx : VReps w (fun b => ¬ False) (fun _ => (0, 0)) args xs) : Calls P f xs.toArray w fun e w' => e = .returned (.bool true) ∧ Below w.heap.size w w' :=
  (h w (fun _ => False) (fun _ => (0, 0)) xs (fun _ h => h.elim) hx).mono fun e w' ⟨v, x, h1, h2, _, h4, h5⟩ => by
    subst h2
    rw [h1, VRep.p_eq h4]
    exact ⟨rfl, h5⟩
end Go.Proofs.Ythlcginebeapdaa
namespace Go.Proofs.Ythlcginebeapdaa
open Go.RowKit
set_option linter.unusedSimpArgs false
set_option linter.unusedVariables false

def D.one : D → Bool
  | .p x => x.oneCell'
  | .sl _ _ _ => true
  | .mp _ => true
  | .mm _ => true
theorem DRep.one {w : World} {q : Nat → Prop} {u : D} {x : Value} (h : DRep w q u x) (ho : u.one = true) : x.oneCell' = true := by
  cases h with
  | p => exact ho
  | sl => rfl
  | mp => rfl
  | mm => rfl

section
variable {c : Cx} {s : S} {o : Oper} {α : Type}

theorem agg_p {w : World} {q : Nat → Prop} {g : Nat → Nat × Nat} {vs : List Value} {x : Value} (h : VRep w q g (.agg (vs.map fun y => .d (.p y))) x) : x = .agg vs.toArray := by
  generalize hl : vs.map (fun y => V.d (.p y)) = l at h
  cases h with
  | agg _ cs hlen hh =>
    subst hl
    congr 2
    apply List.ext_getElem?
    intro j
    simp only [List.length_map] at hlen
    by_cases hj : j < vs.length
    · have h1 := hh j (.d (.p vs[j])) cs[j] (by simp [hj]) (List.getElem?_eq_getElem (by omega))
      rw [List.getElem?_eq_getElem (show j < cs.length by omega), List.getElem?_eq_getElem hj, VRep.p_eq h1]
    · rw [List.getElem?_eq_none (by omega), List.getElem?_eq_none (by omega)]
/-- Two structs of plain values are held against each other. -/
theorem rp_bin_agg {op : BinOp} {t t' : TypeId} {x y : Operand} (us vs : List Value) {b : Bool} (ho : o.op = .binOp op t x y t') (hx : s.ev x = some (.agg (us.map fun y => .d (.p y)))) (hy : s.ev y = some (.agg (vs.map fun y => .d (.p y))))
    (hg : ∀ w, (eqGuard op t x y (.agg us.toArray) (.agg vs.toArray)).run c.P w = .ok () w) (hr : ∀ w, (binOp op t (.agg us.toArray) (.agg vs.toArray)).run c.P w = .ok (.bool b) w) : RP c o s (.b b) := fun g a w hs =>
  ⟨.bool b, .d _ _ (.p _), fun w' => by
    simp only [execOp, ho, agg_p (hs.ev hx), agg_p (hs.ev hy), Sem.run_bind, hg w', hr w', Result.andThen_ok]
    rfl⟩

/-- A copy of a slice: append onto nil. -/
theorem sm_clone {t e : TypeId} {x y : Operand} {sz bt bt' : Nat} {z : Value} {rows : List (List D)} (hu : c.P.underlying t = some (.slice e)) (hi : Inf c.P e sz bt z) (hzs : z.cells.size = sz) (hsz : 0 < sz) (hbb : bt ≤ bt') (hpos : 0 < bt)
    (ho : o.op = .call { callee := .builtin .append, args := #[x, y], argTypes := #[t, t] }) (hx : s.ev x = some .nil) (hy : s.ev y = some (.d (.sl sz bt' rows))) (hrow : ∀ r ∈ rows, r.length = sz ∧ ∀ u ∈ r, u.one = true) (hd : dok s o = true) : StepM c o s (fun s' => s' = s.put o.dst (.d (.sl sz bt' rows))) := by
  intro g a w hs K Q hK
  have hxv := VRep.p_eq (hs.ev hx)
  have h := hs.ev hy
  obtain ⟨i, hi1, hi2, hi3, hi4⟩ := hi.out
  obtain ⟨ad, cap, b, o', f, hyv, ha, hl, hc, hr⟩ : ∃ (ad : Option Addr) (cap b o' : Nat) (f : Nat → Nat → Value), a.eval y = .slice ad rows.length cap ∧ (rows ≠ [] → ad = some ⟨b, o', none⟩ ∧ qt c s.H g b ∧ b < w.heap.size) ∧ rows.length * bt' ≤ 140737488355328 ∧
      (∀ (i j : Nat) (row : List D) (u : D), rows[i]? = some row → row[j]? = some u → w.cell? ⟨b, o' + i * sz + j, none⟩ = some (f i j)) ∧ (∀ (i j : Nat) (row : List D) (u : D), rows[i]? = some row → row[j]? = some u → DRep w (qt c s.H g) u (f i j)) := by
    generalize a.eval y = v at h
    cases h with
    | d _ _ h => cases h with | sl _ _ _ ad cap b o' f _ ha hl hc hr => exact ⟨ad, cap, b, o', f, rfl, ha, hl, hc, hr⟩
  unfold Oper.wp
  by_cases h0 : rows = []
  · subst h0
    have hexec : (execOp a.eval o).run c.P w = .ok (.value (.slice none 0 0)) w := by
      simp only [execOp, ho, resolve, invoke, builtin, Sem.run_bind, Sem.run_pure, Result.andThen_ok, List.map_toArray, List.map_cons, List.map_nil, hxv, hyv]
      have : (Builtin.append_ #[t, t] o.type #[.slice none 0 0, .slice ad ([] : List (List D)).length cap]).run c.P w = .ok (.slice none 0 0) w := by
        simp [Builtin.append_, run_underlying hu, run_sizeOf hi, Builtin.lenOf]
        cases ad <;> simp [Builtin.firstCells, loadCells, loadCellsFrom]
      rw [this]
      rfl
    rw [hexec]
    exact hK g _ _ _ rfl (hs.put o.dst (dok_spec hd) (.d _ _ (.sl sz bt' [] none 0 0 0 (fun _ _ => undef) (Nat.le_refl 0) (fun h => absurd rfl h) (by simp) (by simp) (by simp)))) (Below.refl _ _)
  · obtain ⟨rfl, hq, hb⟩ := ha h0
    have hle : rows.length * bt ≤ rows.length * bt' := Nat.mul_le_mul_left _ hbb
    have hle2 : rows.length ≤ rows.length * bt := Nat.le_mul_of_pos_right _ hpos
    have hdm : ∀ k, k < rows.length * sz → k / sz < rows.length ∧ k % sz < sz ∧ k = k / sz * sz + k % sz := fun k hk =>
      ⟨by rw [Nat.div_lt_iff_lt_mul hsz]; exact hk, Nat.mod_lt _ hsz, by have := Nat.div_add_mod k sz; rw [Nat.mul_comm] at this; exact this.symm⟩
    have hget : ∀ k, k < rows.length * sz → ∃ row u, rows[k / sz]? = some row ∧ row[k % sz]? = some u ∧ u.one = true ∧ row ∈ rows := by
      intro k hk
      obtain ⟨h1, h2, _⟩ := hdm k hk
      have hm : rows[k / sz] ∈ rows := List.getElem_mem _
      have h3 := hrow _ hm
      refine ⟨rows[k / sz], rows[k / sz][k % sz]'(by omega), List.getElem?_eq_getElem h1, List.getElem?_eq_getElem (by omega), h3.2 _ (List.getElem_mem _), hm⟩
    obtain ⟨v', w', hrun, r1, r2, r3, r4⟩ := run_append_own_at (P := c.P) w w.heap.size t o.type e i z sz bt hu hi1 hi4 hi2 hi3 hzs hsz (.slice none 0 0) 0 [] (World.ownsRow_nil _ _ _ _) ⟨b, o', none⟩ rows.length cap ((List.range (rows.length * sz)).map fun k => f (k / sz) (k % sz)) (by simp) (by
        intro j u hu'
        rw [List.getElem?_map] at hu'
        by_cases hj : j < rows.length * sz
        · rw [List.getElem?_range hj] at hu'
          simp only [Option.map_some, Option.some.injEq] at hu'
          subst hu'
          obtain ⟨row, u, h1, h2, _, _⟩ := hget j hj
          rw [addr_add]
          have := hc _ _ row u h1 h2
          rw [Nat.add_assoc, ← (hdm j hj).2.2] at this
          exact this
        · rw [List.getElem?_eq_none (by simpa using hj)] at hu'; cases hu') (by
        intro u hu'
        obtain ⟨k, hk, rfl⟩ := List.mem_map.1 hu'
        obtain ⟨row, u, h1, h2, h3, _⟩ := hget k (by simpa using hk)
        exact (hr _ _ row u h1 h2).one h3) (by simp only [maxLen]; omega) (by rw [Nat.zero_add]; omega) (Nat.le_refl _)
    obtain ⟨q1, q2⟩ := r1
    rcases q2 with ⟨_, hz0⟩ | ⟨G, cap', cur, rfl, hG, q3, q4, q5, q6, q7⟩
    · have : rows.length = 0 := by omega
      exact absurd (List.eq_nil_of_length_eq_zero this) h0
    · have hbel : Below w.heap.size w w' := (Below.refl _ _).grown r2 (Nat.le_refl _) (fun k hk => by simp [Value.ownBlock] at hk)
      have hexec : (execOp a.eval o).run c.P w = .ok (.value (.slice (some ⟨G, 0, none⟩) (0 + rows.length) cap')) w' := by
        simp only [execOp, ho, resolve, invoke, builtin, Sem.run_bind, Sem.run_pure, Result.andThen_ok, List.map_toArray, List.map_cons, List.map_nil, hxv, hyv, hrun]
      rw [hexec]
      refine hK g _ _ _ rfl ((hs.move hbel).put o.dst (dok_spec hd) (.d _ _ ?_)) hbel
      rw [Nat.zero_add]
      refine .sl sz bt' rows (some ⟨G, 0, none⟩) cap' G 0 f (by omega) (fun _ => ⟨rfl, ⟨fun h => ?_, fun k row hk hn e' => ?_⟩, (Array.getElem?_eq_some_iff.1 q3).1⟩) hl ?_ ?_
      · have h1 := hs.low _ h
        have h2 := hs.below.size
        omega
      · obtain ⟨arr, h1, _⟩ := hs.obj k row hk hn
        have := (Array.getElem?_eq_some_iff.1 h1).1
        omega
      · intro i j row u h1 h2
        rw [Nat.zero_add, cell_of_row w' G _ _ _ _ q3]
        have hil : i < rows.length := (List.getElem?_eq_some_iff.1 h1).1
        have hjl : j < sz := by rw [← (hrow row (List.mem_of_getElem? h1)).1]; exact (List.getElem?_eq_some_iff.1 h2).1
        have hlt : i * sz + j < rows.length * sz := by
          have : (i + 1) * sz ≤ rows.length * sz := Nat.mul_le_mul_right _ hil
          rw [Nat.succ_mul] at this
          omega
        have h3 : (cur.toList.take ((0 + rows.length) * sz))[i * sz + j]? = some (f i j) := by
          rw [q7, List.nil_append, List.getElem?_map, List.getElem?_range hlt]
          simp only [Option.map_some, Option.some.injEq]
          have e1 : (i * sz + j) / sz = i := by
            rw [Nat.mul_comm, Nat.mul_add_div hsz, Nat.div_eq_of_lt hjl, Nat.add_zero]
          have e2 : (i * sz + j) % sz = j := by rw [Nat.mul_comm, Nat.mul_add_mod, Nat.mod_eq_of_lt hjl]
          rw [e1, e2]
        rw [List.getElem?_take_of_lt (by rw [Nat.zero_add]; exact hlt)] at h3
        simpa using h3
      · intro i j row u h1 h2
        exact (hr i j row u h1 h2).mono ⟨hbel.size, fun b o u _ h1 h2 => (hbel.cell (p := ⟨b, o, none⟩) h1).trans h2, Below.maps hbel⟩ (fun _ h _ => h)

/-- A cell that holds nil holds a slice that may grow. -/
theorem Sim.adoptH {g : Nat → Nat × Nat} {a : Act} {w : World} (hs : Sim c g s a w) {b j r sz : Nat} {ty : TypeId} {row : Row} (hb : fnd s.H b = some row) (hn : row.nil = false) (hj : row.cells[j]? = some .nil) (hr : s.clean r = true) : Sim c g ⟨s.n, s.T, (b, { row with cells := row.cells.set j (.own r sz 0 true) }) :: (r, ⟨ty, [], true, sz⟩) :: s.H, s.K⟩ a w := by
  have hbr : b ≠ r := (S.clean_obj hr hb).1
  have hfn : ∀ k row', fnd ((b, { row with cells := row.cells.set j (.own r sz 0 true) }) :: (r, (⟨ty, [], true, sz⟩ : Row)) :: s.H) k = some row' → k = b ∧ row' = { row with cells := row.cells.set j (.own r sz 0 true) } ∨ k ≠ b ∧ k = r ∧ row' = ⟨ty, [], true, sz⟩ ∨ k ≠ b ∧ k ≠ r ∧ fnd s.H k = some row' := by
    intro k row' hk
    by_cases e : k = b
    · subst e; simp [fnd] at hk; exact .inl ⟨rfl, hk.symm⟩
    · by_cases e' : k = r
      · subst e'; simp [fnd, e, Ne.symm e] at hk; exact .inr (.inl ⟨e, rfl, hk.symm⟩)
      · simp only [fnd, beq_iff_eq, Ne.symm e, Ne.symm e', if_false] at hk; exact .inr (.inr ⟨e, e', hk⟩)
  have hq : ∀ x, qt c s.H g x → x < w.heap.size → qt c ((b, { row with cells := row.cells.set j (.own r sz 0 true) }) :: (r, (⟨ty, [], true, sz⟩ : Row)) :: s.H) g x := by
    intro x hx _
    refine ⟨hx.1, fun k row' hk hkn => ?_⟩
    rcases hfn k row' hk with ⟨rfl, rfl⟩ | ⟨_, rfl, rfl⟩ | ⟨_, _, h⟩
    · exact hx.2 _ row hb hn
    · cases hkn
    · exact hx.2 k row' h hkn
  have hm : ∀ {v x}, VRep w (qt c s.H g) g v x → VRep w (qt c ((b, { row with cells := row.cells.set j (.own r sz 0 true) }) :: (r, (⟨ty, [], true, sz⟩ : Row)) :: s.H) g) g v x := fun hv => hv.mono Cells.rfl hq (fun _ _ => rfl)
  refine ⟨hs.size, hs.defers, ?_, ?_, ?_, ?_, ?_, ?_, hs.low, hs.below⟩
  · intro i v hv
    obtain ⟨x, h1, h2⟩ := hs.tmp i v hv
    exact ⟨x, h1, hm h2⟩
  · intro k row' hk hkn
    rcases hfn k row' hk with ⟨rfl, rfl⟩ | ⟨_, rfl, rfl⟩ | ⟨_, _, h⟩
    · simp only at hkn; rw [hn] at hkn; cases hkn
    · rfl
    · exact hs.nul k row' h hkn
  · intro k row' hk hkn
    rcases hfn k row' hk with ⟨rfl, rfl⟩ | ⟨_, rfl, rfl⟩ | ⟨_, _, h⟩
    · obtain ⟨arr, h1, h2, h3⟩ := hs.obj _ row hb hn
      refine ⟨arr, h1, h2, fun i v hv => ?_⟩
      simp only [List.getElem?_set] at hv
      split at hv
      · rename_i e
        subst e
        split at hv
        · simp only [Option.some.injEq] at hv
          subst hv
          obtain ⟨x, h4, h5⟩ := h3 j _ hj
          refine ⟨x, h4, ?_⟩
          rw [VRep.p_eq h5]
          exact .ownNil r sz
        · cases hv
      · obtain ⟨x, h4, h5⟩ := h3 i v hv
        exact ⟨x, h4, hm h5⟩
    · cases hkn
    · obtain ⟨arr, h1, h2, h3⟩ := hs.obj k row' h hkn
      refine ⟨arr, h1, h2, fun i v hv => ?_⟩
      obtain ⟨x, h4, h5⟩ := h3 i v hv
      exact ⟨x, h4, hm h5⟩
  · intro i v x h1 h2
    exact hm (hs.keep i v x h1 h2)
  · intro k k' row1 row2 h1 n1 h2 n2 h3
    rcases hfn k row1 h1 with ⟨rfl, rfl⟩ | ⟨_, rfl, rfl⟩ | ⟨e1, _, h⟩ <;> rcases hfn k' row2 h2 with ⟨rfl, rfl⟩ | ⟨_, rfl, rfl⟩ | ⟨e2, _, h'⟩
    · rfl
    · cases n2
    · exact hs.inj _ _ _ _ hb hn h' n2 h3
    · cases n1
    · cases n1
    · cases n1
    · exact hs.inj _ _ _ _ h n1 hb hn h3
    · cases n2
    · exact hs.inj _ _ _ _ h n1 h' n2 h3
  · intro k row' hk hkn
    rcases hfn k row' hk with ⟨rfl, rfl⟩ | ⟨_, rfl, rfl⟩ | ⟨_, _, h⟩
    · exact hs.base _ row hb hn
    · cases hkn
    · exact hs.base k _ h hkn
theorem AW.adoptH {Q : Exit → S → Prop} {code : Code} (b j r sz : Nat) (ty : TypeId) {row : Row} (hb : fnd s.H b = some row) (hn : row.nil = false) (hj : row.cells[j]? = some .nil) (hr : s.clean r = true)
    (h : AW c code Q ⟨s.n, s.T, (b, { row with cells := row.cells.set j (.own r sz 0 true) }) :: (r, ⟨ty, [], true, sz⟩) :: s.H, s.K⟩) : AW c code Q s := fun g a w hs => h g a w (hs.adoptH hb hn hj hr)
/-- A cell that holds a slice of the call's own holds plain data. -/
theorem Sim.freezeH {g : Nat → Nat × Nat} {a : Act} {w : World} (hs : Sim c g s a w) {b j r sz bt n : Nat} {f : Bool} {row0 row : Row} {rows : List (List D)} (hb : fnd s.H b = some row0) (hn0 : row0.nil = false) (hj : row0.cells[j]? = some (.own r sz n f)) (hbr : b ≠ r) (hr : fnd s.H r = some row) (hf : row.nil = f) (hlen : rows.length = n) (hn : n * bt ≤ 140737488355328)
    (hrows : ∀ (i j : Nat) (l : List D) (u : D), rows[i]? = some l → l[j]? = some u → row.cells[i * sz + j]? = some (.d u)) : Sim c g ⟨s.n, s.T, (b, { row0 with cells := row0.cells.set j (.d (.sl sz bt rows)) }) :: s.H.filter (fun x => x.1 != r), s.K⟩ a w := by
  have hfn : ∀ k row', fnd ((b, { row0 with cells := row0.cells.set j (.d (.sl sz bt rows)) }) :: s.H.filter (fun x => x.1 != r)) k = some row' → k = b ∧ row' = { row0 with cells := row0.cells.set j (.d (.sl sz bt rows)) } ∨ k ≠ b ∧ k ≠ r ∧ fnd s.H k = some row' := by
    intro k row' hk
    by_cases e : k = b
    · subst e; simp [fnd] at hk; exact .inl ⟨rfl, hk.symm⟩
    · simp only [fnd, beq_iff_eq, Ne.symm e, if_false] at hk
      have e' : k ≠ r := by rintro rfl; rw [fnd_filter_self] at hk; cases hk
      rw [fnd_filter r _ _ e'] at hk
      exact .inr ⟨e, e', hk⟩
  have hq : ∀ x, qt c s.H g x → x < w.heap.size → qt c ((b, { row0 with cells := row0.cells.set j (.d (.sl sz bt rows)) }) :: s.H.filter (fun x => x.1 != r)) g x := by
    intro x hx _
    refine ⟨hx.1, fun k row' hk hkn => ?_⟩
    rcases hfn k row' hk with ⟨rfl, rfl⟩ | ⟨_, _, h⟩
    · exact hx.2 _ row0 hb hn0
    · exact hx.2 k row' h hkn
  have hm : ∀ {v x}, VRep w (qt c s.H g) g v x → VRep w (qt c ((b, { row0 with cells := row0.cells.set j (.d (.sl sz bt rows)) }) :: s.H.filter (fun x => x.1 != r)) g) g v x := fun hv => hv.mono Cells.rfl hq (fun _ _ => rfl)
  refine ⟨hs.size, hs.defers, ?_, ?_, ?_, ?_, ?_, ?_, hs.low, hs.below⟩
  · intro i v hv
    obtain ⟨x, h1, h2⟩ := hs.tmp i v hv
    exact ⟨x, h1, hm h2⟩
  · intro k row' hk hkn
    rcases hfn k row' hk with ⟨rfl, rfl⟩ | ⟨_, _, h⟩
    · simp only at hkn; rw [hn0] at hkn; cases hkn
    · exact hs.nul k row' h hkn
  · intro k row' hk hkn
    rcases hfn k row' hk with ⟨rfl, rfl⟩ | ⟨_, _, h⟩
    · obtain ⟨arr, h1, h2, h3⟩ := hs.obj _ row0 hb hn0
      refine ⟨arr, h1, h2, fun i v hv => ?_⟩
      simp only [List.getElem?_set] at hv
      split at hv
      · rename_i e
        subst e
        split at hv
        · simp only [Option.some.injEq] at hv
          subst hv
          obtain ⟨x, h4, h5⟩ := h3 j _ hj
          refine ⟨x, h4, .d _ _ ?_⟩
          cases h5 with
          | own _ _ _ hle hcap =>
            obtain ⟨ar2, h6, _, h7⟩ := hs.obj r row hr hf
            subst hlen
            have hob : ¬ c.out (g r).1 := fun h => by
              have h8 := hs.low _ h
              have h9 := hs.base r row hr hf
              omega
            refine .sl sz bt rows _ _ (g r).1 0 (fun i j => ar2.getD (i * sz + j) undef) hle (fun _ => ⟨rfl, ⟨hob, fun k row' hk hkn e => ?_⟩, (Array.getElem?_eq_some_iff.1 h6).1⟩) hn ?_ ?_
            · rcases hfn k row' hk with ⟨rfl, rfl⟩ | ⟨_, k1, k2⟩
              · exact hbr (hs.inj _ r _ _ hb hn0 hr hf e)
              · exact k1 (hs.inj k r _ _ k2 hkn hr hf e)
            · intro i j l u hi hj
              obtain ⟨y, h8, h9⟩ := h7 _ _ (hrows i j l u hi hj)
              rw [Nat.zero_add, cell_of_row w _ _ _ _ _ h6, h8]
              simp [Array.getD_eq_getD_getElem?, h8]
            · intro i j l u hi hj
              obtain ⟨y, h8, h9⟩ := h7 _ _ (hrows i j l u hi hj)
              cases hm h9 with
              | d _ _ h10 => simpa [Array.getD_eq_getD_getElem?, h8] using h10
          | ownNil =>
            have : rows = [] := by simpa using hlen
            subst this
            exact .sl sz bt [] none 0 0 0 (fun _ _ => undef) (Nat.le_refl 0) (fun h => absurd rfl h) (by simp) (by simp) (by simp)
        · cases hv
      · obtain ⟨x, h4, h5⟩ := h3 i v hv
        exact ⟨x, h4, hm h5⟩
    · obtain ⟨arr, h1, h2, h3⟩ := hs.obj k row' h hkn
      refine ⟨arr, h1, h2, fun i v hv => ?_⟩
      obtain ⟨x, h4, h5⟩ := h3 i v hv
      exact ⟨x, h4, hm h5⟩
  · intro i v x h1 h2
    exact hm (hs.keep i v x h1 h2)
  · intro k k' row1 row2 h1 n1 h2 n2 h3
    rcases hfn k row1 h1 with ⟨rfl, rfl⟩ | ⟨e1, _, h⟩ <;> rcases hfn k' row2 h2 with ⟨rfl, rfl⟩ | ⟨e2, _, h'⟩
    · rfl
    · exact hs.inj _ _ _ _ hb hn0 h' n2 h3
    · exact hs.inj _ _ _ _ h n1 hb hn0 h3
    · exact hs.inj _ _ _ _ h n1 h' n2 h3
  · intro k row' hk hkn
    rcases hfn k row' hk with ⟨rfl, rfl⟩ | ⟨_, _, h⟩
    · exact hs.base _ row0 hb hn0
    · exact hs.base k _ h hkn
theorem AW.freezeH {Q : Exit → S → Prop} {code : Code} (b j bt : Nat) {r sz n : Nat} {f : Bool} {row0 row : Row} (rows : List (List D)) (hb : fnd s.H b = some row0) (hn0 : row0.nil = false) (hj : row0.cells[j]? = some (.own r sz n f)) (hbr : b ≠ r) (hr : fnd s.H r = some row) (hf : row.nil = f) (hlen : rows.length = n) (hn : n * bt ≤ 140737488355328)
    (hrows : ∀ (i j : Nat) (l : List D) (u : D), rows[i]? = some l → l[j]? = some u → row.cells[i * sz + j]? = some (.d u)) (h : AW c code Q ⟨s.n, s.T, (b, { row0 with cells := row0.cells.set j (.d (.sl sz bt rows)) }) :: s.H.filter (fun x => x.1 != r), s.K⟩) : AW c code Q s :=
  fun g a w hs => h g a w (hs.freezeH hb hn0 hj hbr hr hf hlen hn hrows)
theorem rowsF {l : List α} {enc : α → List D} {sz : Nat} (hsz : ∀ x, (enc x).length = sz) {cells : List V} (h : cells = l.flatMap (fun x => (enc x).map V.d)) : ∀ (i j : Nat) (l' : List D) (u : D), (l.map enc)[i]? = some l' → l'[j]? = some u → cells[i * sz + j]? = some (.d u) := by
  intro i j l' u h1 h2
  rw [List.getElem?_map] at h1
  cases h3 : l[i]? with
  | none => rw [h3] at h1; cases h1
  | some x =>
    rw [h3] at h1
    simp only [Option.map_some, Option.some.injEq] at h1
    subst h1 h
    induction l generalizing i with
    | nil => simp at h3
    | cons y l ih =>
      rw [List.flatMap_cons]
      cases i with
      | zero =>
        simp at h3
        subst h3
        rw [Nat.zero_mul, Nat.zero_add, List.getElem?_append_left (by simp; exact (List.getElem?_eq_some_iff.1 h2).1)]
        simp [h2]
      | succ i =>
        rw [List.getElem?_append_right (by simp [hsz]; rw [Nat.succ_mul]; omega)]
        simp only [List.length_map, hsz]
        rw [show (i + 1) * sz + j - sz = i * sz + j by rw [Nat.succ_mul]; omega]
        exact ih i (by simpa using h3)
theorem flat_len {l : List α} {f : α → List V} {sz : Nat} (hf : ∀ x, (f x).length = sz) : (l.flatMap f).length = l.length * sz := by
  induction l with
  | nil => simp
  | cons x l ih => simp [ih, hf, Nat.succ_mul, Nat.add_comm]

theorem st_appendF {t e : TypeId} {x y : Operand} {r r2 sz bt n m : Nat} {z : Value} {f : Bool} {row row2 : Row} {news : List V} (hu : c.P.underlying t = some (.slice e)) (hi : Inf c.P e sz bt z) (hzs : z.cells.size = sz) (hsz : 0 < sz)
    (ho : o.op = .call { callee := .builtin .append, args := #[x, y], argTypes := #[t, t] }) (hx : s.ev x = some (.own r sz n f)) (hr : fnd s.H r = some row) (hf : row.nil = f) (hrz : row.sz = sz) (hty : row.ty = e)
    (hl1 : row.cells.length = n * sz) (hc1 : V.hasL r row.cells = false) (hy : s.ev y = some (.own r2 sz m false)) (hr2 : fnd s.H r2 = some row2) (hf2 : row2.nil = false) (hnews : row2.cells.take (m * sz) = news) (hnl : news.length = m * sz) (hc2 : V.hasL r news = false) (hone : news.all V.one = true) (hm : 0 < m) (h63 : n + m ≤ 140737488355328) (hbt : (n + m) * bt ≤ 140737488355328) (hd : dok s o = true) :
    Step c o s (fun s' => s' = S.put ⟨s.n, (s.forget r).T, (r, ⟨e, row.cells ++ news, false, sz⟩) :: (s.forget r).H, (s.forget r).K⟩ o.dst (.own r sz (n + m) false)) :=
  st_append hu hi hzs hsz ho hx hr hf hrz hty (List.take_of_length_le (by omega)) hl1 hc1 hy hr2 hf2 hnews hnl hc2 hone hm h63 hbt hd
@[simp] theorem hasL_append (r : Nat) (l l' : List V) : V.hasL r (l ++ l') = (V.hasL r l || V.hasL r l') := by
  induction l with
  | nil => rfl
  | cons v l ih => simp [V.hasL, ih, Bool.or_assoc]
@[simp] theorem hasL_flat (r : Nat) (l : List α) (enc : α → List D) : V.hasL r (l.flatMap (fun x => (enc x).map V.d)) = false := by
  simp [V.hasL_false, V.has]
  intro v x _ u _ h
  subst h
  rfl
end
end Go.Proofs.Ythlcginebeapdaa
namespace Go.Proofs.Ythlcginebeapdaa
open Go.RowKit
set_option linter.unusedSimpArgs false
set_option linter.unusedVariables false
set_option maxRecDepth 100000

theorem cmp_neq_54F {c : Cx} {s : S} {o : Oper} {t' : TypeId} {x y : Operand} {a b : Ar} (hP : c.P = Try.prog) (ho : o.op = .binOp .neq 54 x y t') (hx : s.ev x = some (.agg ((arD a).map V.d))) (hy : s.ev y = some (.agg ((arD b).map V.d))) (h : a = b) : RP c o s (.b false) := by
 subst h
 refine rp_bin_agg [.int .i64 a.i, .int .i64 a.o, .int .i64 a.w, .int .i64 a.t] [.int .i64 a.i, .int .i64 a.o, .int .i64 a.w, .int .i64 a.t] ho hx hy (fun w => ?_) (fun w => ?_)
 ·rw [hP]; simp [go_sem]
 ·rw [hP]; simp [go_sem]
theorem am_SameArcs (l : List Ar) : Fn Try.prog 54 [.d (arsD l), .d (arsD l)] (fun v => v = .b true) := by
 refine Fn.sl 0 rfl fun hb => ?_
 obtain ⟨n, hn⟩ : ∃ n, l.length = n := ⟨_, rfl⟩
 rw [List.length_map, hn] at hb
 refine Fn.intro (n := 26) ⟨Try.func54, rfl, rfl, rfl, rfl⟩ (by simp [V.pure, V.has, V.hasL]) (by simp) fun w0 out => ?_
 refine AW.seq ?_
 refine AW.region ?_
 refine AL.rp rfl rfl (rp_assign rfl rfl) ?_
 refine AL.nil ?_
 try simp only [thenS, S.put, enum, List.nil_append, List.cons_append, List.append_nil, Nat.zero_add, Nat.reduceAdd]
 refine AW.seq ?_
 refine AW.seq ?_
 refine AW.region ?_
 refine AL.rp rfl rfl (rp_move rfl rfl) ?_
 (first | (refine AL.rp rfl rfl (rp_len_map Try.underlying48 rfl rfl (by assumption)) ?_) | (refine AL.rp rfl rfl (rp_len_own Try.underlying48 rfl rfl) ?_) | (refine AL.rp rfl rfl (rp_len_sl Try.underlying48 rfl rfl) ?_) | (refine AL.rp rfl rfl (rp_len_nil Try.underlying48 rfl rfl) ?_) | (refine AL.rp rfl rfl (rp_len_str Try.underlying48 rfl rfl) ?_))
 refine AL.rp rfl rfl (rp_move rfl rfl) ?_
 (first | (refine AL.rp rfl rfl (rp_len_map Try.underlying48 rfl rfl (by assumption)) ?_) | (refine AL.rp rfl rfl (rp_len_own Try.underlying48 rfl rfl) ?_) | (refine AL.rp rfl rfl (rp_len_sl Try.underlying48 rfl rfl) ?_) | (refine AL.rp rfl rfl (rp_len_nil Try.underlying48 rfl rfl) ?_) | (refine AL.rp rfl rfl (rp_len_str Try.underlying48 rfl rfl) ?_))
 (first | (refine AL.rp rfl rfl (rp_neqT rfl rfl rfl (by first | assumption | omega | (dsimp only; omega))) ?_) | (refine AL.rp rfl rfl (rp_neqF rfl rfl rfl (by first | assumption | omega | (dsimp only; omega))) ?_) | (refine AL.rp rfl rfl (rp_neq rfl rfl rfl) ?_))
 refine AL.nil ?_
 try simp only [thenS, S.put]
 refine AW.condF rfl ?_
 refine AW.skip ?_
 try simp only [thenS]
 refine AW.seq ?_
 refine AW.seq ?_
 refine AW.region ?_
 refine AL.rp rfl rfl (rp_assign rfl rfl) ?_
 refine AL.nil ?_
 try simp only [thenS, S.put]
 refine AW.block ?_
 refine AW.loop (fun s' => ∃ k : Nat, k ≤ n ∧ s' = ⟨26, [(0, .d (arsD l)), (1, .d (arsD l)), (5, .i k)], [], []⟩) (fun s' => n - s'.nat 5) ⟨_, ?_, 0, by omega, rfl⟩ ?_
 ·exact (Less.of rfl (by repeat (first | exact trivial | refine ⟨⟨_, rfl, Wk.refl _⟩, ?_⟩ | refine ⟨⟨_, rfl, Wk.nil _ _⟩, ?_⟩ | refine ⟨⟨_, rfl, Wk.junk _⟩, ?_⟩)) (by repeat (first | exact trivial | refine ⟨rfl, ?_⟩)) rfl)
 rintro s' ⟨k, hk, rfl⟩
 by_cases hlt : k < n
 ·obtain ⟨x, hx⟩ := get_lt hn hlt
  refine AW.seq ?_
  refine AW.seq ?_
  refine AW.region ?_
  refine AL.rp rfl rfl (rp_move rfl rfl) ?_
  refine AL.rp rfl rfl (rp_move rfl rfl) ?_
  (first | (refine AL.rp rfl rfl (rp_len_map Try.underlying48 rfl rfl (by assumption)) ?_) | (refine AL.rp rfl rfl (rp_len_own Try.underlying48 rfl rfl) ?_) | (refine AL.rp rfl rfl (rp_len_sl Try.underlying48 rfl rfl) ?_) | (refine AL.rp rfl rfl (rp_len_nil Try.underlying48 rfl rfl) ?_) | (refine AL.rp rfl rfl (rp_len_str Try.underlying48 rfl rfl) ?_))
  (first | (refine AL.rp rfl rfl (rp_lssT rfl rfl rfl (by first | assumption | omega | (dsimp only; omega))) ?_) | (refine AL.rp rfl rfl (rp_lssF rfl rfl rfl (by first | assumption | omega | (dsimp only; omega))) ?_) | (refine AL.rp rfl rfl (rp_lss rfl rfl rfl) ?_))
  refine AL.nil ?_
  try simp only [thenS, S.put]
  refine AW.condT rfl ?_
  refine AW.skip ?_
  try simp only [thenS]
  refine AW.seq ?_
  refine AW.block ?_
  refine AW.seq ?_
  refine AW.draw [(0, true), (1, true), (2, true), (3, true), (4, true), (5, true), (6, true), (7, true), (8, true)] (fun i => !([] : List Nat).contains i) 9 (by kernel_rfl) (by kernel_rfl) rfl (by kernel_rfl) ?_
  refine AD1.rp rfl rfl rfl (fun _ _ h => h) (rp_move rfl rfl) ?_
  refine AD1.rp rfl rfl rfl (fun _ _ h => h) (rp_move rfl rfl) ?_
  (first | (refine AD1.rp rfl rfl rfl (fun _ _ h => h) (rp_index_map Try.underlying48 inf54 rfl rfl rfl rfl (by assumption)) ?_) | (refine AD1.rp rfl rfl rfl (fun _ _ h => h) (rp_index_own Try.underlying48 inf54 rfl rfl rfl rfl (by first | assumption | omega)) ?_) | (refine AD1.rp rfl rfl rfl (fun _ _ h => h) (rd_index_sl Try.underlying48 inf54 rfl rfl rfl rfl (by assumption)) ?_) | (refine AD1.rp rfl rfl rfl (fun _ _ h => h) (rp_index_own Try.underlying48 inf54 rfl rfl rfl (by omega) (by omega)) ?_))
  (first | (refine AD1.rd rfl rfl rfl (fun _ _ h => h) (rd_loads_ref Try.underlying54 rfl inf54 rfl rfl rfl rfl rfl rfl) ?_) | (refine AD1.rd rfl rfl rfl (fun _ _ h => h) (rd_loads_ad Try.underlying54 rfl inf54 rfl rfl rfl rfl) ?_))
  refine AD1.rp rfl rfl rfl (fun _ _ h => h) (rp_move rfl rfl) ?_
  refine AD1.rp rfl rfl rfl (fun _ _ h => h) (rp_move rfl rfl) ?_
  (first | (refine AD1.rp rfl rfl rfl (fun _ _ h => h) (rp_index_map Try.underlying48 inf54 rfl rfl rfl rfl (by assumption)) ?_) | (refine AD1.rp rfl rfl rfl (fun _ _ h => h) (rp_index_own Try.underlying48 inf54 rfl rfl rfl rfl (by first | assumption | omega)) ?_) | (refine AD1.rp rfl rfl rfl (fun _ _ h => h) (rd_index_sl Try.underlying48 inf54 rfl rfl rfl rfl (by assumption)) ?_) | (refine AD1.rp rfl rfl rfl (fun _ _ h => h) (rp_index_own Try.underlying48 inf54 rfl rfl rfl (by omega) (by omega)) ?_))
  (first | (refine AD1.rd rfl rfl rfl (fun _ _ h => h) (rd_loads_ref Try.underlying54 rfl inf54 rfl rfl rfl rfl rfl rfl) ?_) | (refine AD1.rd rfl rfl rfl (fun _ _ h => h) (rd_loads_ad Try.underlying54 rfl inf54 rfl rfl rfl rfl) ?_))
  refine AD1.rp rfl rfl rfl (fun _ _ h => h) (cmp_neq_54F rfl rfl rfl rfl (by first | assumption | rfl)) ?_
  refine AD1.nil ?_
  try simp only [thenS, S.put]
  refine AW.condF rfl ?_
  refine AW.skip ?_
  try simp only [thenS]
  refine AW.region ?_
  refine AL.rp rfl rfl (rp_move rfl rfl) ?_
  refine AL.rp rfl rfl (rp_add rfl rfl rfl (by first | omega | (dsimp only; omega))) ?_
  refine AL.rp rfl rfl (rp_assign rfl rfl) ?_
  refine AL.nil ?_
  try simp only [thenS, S.put]
  refine ⟨_, ?_, ⟨k + 1, by omega, rfl⟩, ?_⟩
  ·exact (Less.of rfl (by repeat (first | exact trivial | refine ⟨⟨_, rfl, Wk.refl _⟩, ?_⟩ | refine ⟨⟨_, rfl, Wk.nil _ _⟩, ?_⟩ | refine ⟨⟨_, rfl, Wk.junk _⟩, ?_⟩)) (by repeat (first | exact trivial | refine ⟨rfl, ?_⟩)) rfl)
  ·simp [S.nat, fnd]; omega
 ·skip
  refine AW.seq ?_
  refine AW.seq ?_
  refine AW.region ?_
  refine AL.rp rfl rfl (rp_move rfl rfl) ?_
  refine AL.rp rfl rfl (rp_move rfl rfl) ?_
  (first | (refine AL.rp rfl rfl (rp_len_map Try.underlying48 rfl rfl (by assumption)) ?_) | (refine AL.rp rfl rfl (rp_len_own Try.underlying48 rfl rfl) ?_) | (refine AL.rp rfl rfl (rp_len_sl Try.underlying48 rfl rfl) ?_) | (refine AL.rp rfl rfl (rp_len_nil Try.underlying48 rfl rfl) ?_) | (refine AL.rp rfl rfl (rp_len_str Try.underlying48 rfl rfl) ?_))
  (first | (refine AL.rp rfl rfl (rp_lssT rfl rfl rfl (by first | assumption | omega | (dsimp only; omega))) ?_) | (refine AL.rp rfl rfl (rp_lssF rfl rfl rfl (by first | assumption | omega | (dsimp only; omega))) ?_) | (refine AL.rp rfl rfl (rp_lss rfl rfl rfl) ?_))
  refine AL.nil ?_
  try simp only [thenS, S.put]
  refine AW.condF rfl ?_
  refine AW.exit ?_
  try simp only [thenS, inBlockS, ↓reduceIte, Nat.reduceEqDiff]
  refine AW.seq ?_
  refine AW.region ?_
  refine AL.rp rfl rfl (rp_assign rfl rfl) ?_
  refine AL.nil ?_
  try simp only [thenS, S.put]
  refine AW.ret ?_
  exact ⟨[_], ⟨rfl, trivial⟩, rfl, by simp [tupOf, V.pure, V.has]⟩

theorem am_SameMachine (m : Mach) : Fn Try.prog 34 [mV m, mV m] (fun v => v = .b true) := by
 refine Fn.mach m 0 rfl fun hb _ => ?_
 obtain ⟨st, sts⟩ := m
 obtain ⟨n, hn⟩ : ∃ n, sts.length = n := ⟨_, rfl⟩
 simp only [hn] at hb
 refine Fn.intro (n := 56) ⟨Try.func34, rfl, rfl, rfl, rfl⟩ (by simp [V.pure, V.has, V.hasL]) (by simp) fun w0 out => ?_
 refine AW.seq ?_
 refine AW.region ?_
 refine AL.sm rfl (sm_box 2 rfl rfl rfl (by first | rfl | simp [S.clean, S.put, S.newObj, S.forget, V.has, V.hasL, junkIf, setL, V.cs, hasL_i, hasL_d, hasL_b, hasL_s, hasL_n, hasL_rep, hasL_flat, hasL_append, -List.map_set]) rfl) ?_
 refine AL.sm rfl (sm_box 3 rfl rfl rfl (by first | rfl | simp [S.clean, S.put, S.newObj, S.forget, V.has, V.hasL, junkIf, setL, V.cs, hasL_i, hasL_d, hasL_b, hasL_s, hasL_n, hasL_rep, hasL_flat, hasL_append, -List.map_set]) rfl) ?_
 refine AL.rp rfl rfl (rp_assign rfl rfl) ?_
 refine AL.nil ?_
 try simp only [thenS, S.put, S.newObj, setL, V.cs, List.length_cons, List.length_nil, List.take_succ_cons, List.take_zero, List.drop_succ_cons, List.drop_zero, List.drop_nil, List.nil_append, List.cons_append, List.append_nil, Nat.zero_add, Nat.reduceAdd, List.map_cons, List.map_nil, List.set_cons_zero, List.set_cons_succ, enum]
 refine AW.seq ?_
 refine AW.seq ?_
 refine AW.region ?_
 (first | (refine AL.rp rfl rfl (rp_field_ref Try.underlying24 rfl rfl rfl inf3 (by decide) rfl) ?_) | (refine AL.rp rfl rfl (rp_field_ad Try.underlying24 rfl rfl rfl inf3 (by decide) rfl) ?_))
 (first | (refine AL.rd rfl rfl (rd_load_ref Try.underlying3 rfl rfl rfl rfl rfl rfl) ?_) | (refine AL.rd rfl rfl (rd_load_ad Try.underlying3 rfl rfl rfl rfl) ?_) | (refine AL.rd rfl rfl (rd_load_map Try.underlying3 rfl rfl rfl rfl rfl rfl (by assumption)) ?_))
 (first | (refine AL.rp rfl rfl (rp_field_ref Try.underlying24 rfl rfl rfl inf3 (by decide) rfl) ?_) | (refine AL.rp rfl rfl (rp_field_ad Try.underlying24 rfl rfl rfl inf3 (by decide) rfl) ?_))
 (first | (refine AL.rd rfl rfl (rd_load_ref Try.underlying3 rfl rfl rfl rfl rfl rfl) ?_) | (refine AL.rd rfl rfl (rd_load_ad Try.underlying3 rfl rfl rfl rfl) ?_) | (refine AL.rd rfl rfl (rd_load_map Try.underlying3 rfl rfl rfl rfl rfl rfl (by assumption)) ?_))
 (first | (refine AL.rp rfl rfl (rp_neqT rfl rfl rfl (by first | assumption | omega | (dsimp only; omega))) ?_) | (refine AL.rp rfl rfl (rp_neqF rfl rfl rfl (by first | assumption | omega | (dsimp only; omega))) ?_) | (refine AL.rp rfl rfl (rp_neq rfl rfl rfl) ?_))
 refine AL.rp rfl rfl (rp_move rfl rfl) ?_
 (first | (refine AL.no rfl rfl rfl rfl ?_) | (refine AL.rpy rfl rfl rfl (rp_field_ref Try.underlying24 rfl rfl rfl inf22 (by decide) rfl) ?_) | (refine AL.rpy rfl rfl rfl (rp_field_ad Try.underlying24 rfl rfl rfl inf22 (by decide) rfl) ?_))
 (first | (refine AL.no rfl rfl rfl rfl ?_) | (refine AL.rdy rfl rfl rfl (rd_load_ref Try.underlying22 rfl rfl rfl rfl rfl rfl) ?_) | (refine AL.rdy rfl rfl rfl (rd_load_ad Try.underlying22 rfl rfl rfl rfl) ?_) | (refine AL.rdy rfl rfl rfl (rd_load_map Try.underlying22 rfl rfl rfl rfl rfl rfl (by assumption)) ?_))
 (first | (refine AL.no rfl rfl rfl rfl ?_) | (refine AL.rpy rfl rfl rfl (rp_len_map Try.underlying22 rfl rfl (by assumption)) ?_) | (refine AL.rpy rfl rfl rfl (rp_len_own Try.underlying22 rfl rfl) ?_) | (refine AL.rpy rfl rfl rfl (rp_len_sl Try.underlying22 rfl rfl) ?_) | (refine AL.rpy rfl rfl rfl (rp_len_nil Try.underlying22 rfl rfl) ?_) | (refine AL.rpy rfl rfl rfl (rp_len_str Try.underlying22 rfl rfl) ?_))
 (first | (refine AL.no rfl rfl rfl rfl ?_) | (refine AL.rpy rfl rfl rfl (rp_field_ref Try.underlying24 rfl rfl rfl inf22 (by decide) rfl) ?_) | (refine AL.rpy rfl rfl rfl (rp_field_ad Try.underlying24 rfl rfl rfl inf22 (by decide) rfl) ?_))
 (first | (refine AL.no rfl rfl rfl rfl ?_) | (refine AL.rdy rfl rfl rfl (rd_load_ref Try.underlying22 rfl rfl rfl rfl rfl rfl) ?_) | (refine AL.rdy rfl rfl rfl (rd_load_ad Try.underlying22 rfl rfl rfl rfl) ?_) | (refine AL.rdy rfl rfl rfl (rd_load_map Try.underlying22 rfl rfl rfl rfl rfl rfl (by assumption)) ?_))
 (first | (refine AL.no rfl rfl rfl rfl ?_) | (refine AL.rpy rfl rfl rfl (rp_len_map Try.underlying22 rfl rfl (by assumption)) ?_) | (refine AL.rpy rfl rfl rfl (rp_len_own Try.underlying22 rfl rfl) ?_) | (refine AL.rpy rfl rfl rfl (rp_len_sl Try.underlying22 rfl rfl) ?_) | (refine AL.rpy rfl rfl rfl (rp_len_nil Try.underlying22 rfl rfl) ?_) | (refine AL.rpy rfl rfl rfl (rp_len_str Try.underlying22 rfl rfl) ?_))
 (first | (refine AL.no rfl rfl rfl rfl ?_) | (refine AL.rpy rfl rfl rfl (rp_neqT rfl rfl rfl (by first | assumption | omega | (dsimp only; omega))) ?_) | (refine AL.rpy rfl rfl rfl (rp_neqF rfl rfl rfl (by first | assumption | omega | (dsimp only; omega))) ?_) | (refine AL.rpy rfl rfl rfl (rp_neq rfl rfl rfl) ?_))
 refine AL.rp rfl rfl (rp_pick rfl rfl rfl) ?_
 refine AL.nil ?_
 try simp only [thenS, S.put]
 refine AW.condF rfl ?_
 refine AW.skip ?_
 try simp only [thenS]
 refine AW.seq ?_
 refine AW.seq ?_
 refine AW.region ?_
 refine AL.rp rfl rfl (rp_assign rfl rfl) ?_
 refine AL.nil ?_
 try simp only [thenS, S.put]
 refine AW.block ?_
 refine AW.loop (fun s' => ∃ k : Nat, k ≤ n ∧ s' = ⟨56, [(2, .ref 2 0), (3, .ref 3 0), (5, .i k)], [(2, ⟨24, [.i st, .d (stsD sts)], false, 0⟩), (3, ⟨24, [.i st, .d (stsD sts)], false, 0⟩)], []⟩) (fun s' => n - s'.nat 5) ⟨_, ?_, 0, by omega, rfl⟩ ?_
 ·exact (Less.of rfl (by repeat (first | exact trivial | refine ⟨⟨_, rfl, Wk.refl _⟩, ?_⟩ | refine ⟨⟨_, rfl, Wk.nil _ _⟩, ?_⟩ | refine ⟨⟨_, rfl, Wk.junk _⟩, ?_⟩)) (by repeat (first | exact trivial | refine ⟨rfl, ?_⟩)) rfl)
 rintro s' ⟨k, hk, rfl⟩
 by_cases hlt : k < n
 ·obtain ⟨x, hx⟩ := get_lt hn hlt
  refine AW.seq ?_
  refine AW.seq ?_
  refine AW.region ?_
  refine AL.rp rfl rfl (rp_move rfl rfl) ?_
  (first | (refine AL.rp rfl rfl (rp_field_ref Try.underlying24 rfl rfl rfl inf22 (by decide) rfl) ?_) | (refine AL.rp rfl rfl (rp_field_ad Try.underlying24 rfl rfl rfl inf22 (by decide) rfl) ?_))
  (first | (refine AL.rd rfl rfl (rd_load_ref Try.underlying22 rfl rfl rfl rfl rfl rfl) ?_) | (refine AL.rd rfl rfl (rd_load_ad Try.underlying22 rfl rfl rfl rfl) ?_) | (refine AL.rd rfl rfl (rd_load_map Try.underlying22 rfl rfl rfl rfl rfl rfl (by assumption)) ?_))
  (first | (refine AL.rp rfl rfl (rp_len_map Try.underlying22 rfl rfl (by assumption)) ?_) | (refine AL.rp rfl rfl (rp_len_own Try.underlying22 rfl rfl) ?_) | (refine AL.rp rfl rfl (rp_len_sl Try.underlying22 rfl rfl) ?_) | (refine AL.rp rfl rfl (rp_len_nil Try.underlying22 rfl rfl) ?_) | (refine AL.rp rfl rfl (rp_len_str Try.underlying22 rfl rfl) ?_))
  (first | (refine AL.rp rfl rfl (rp_lssT rfl rfl rfl (by first | assumption | omega | (dsimp only; omega))) ?_) | (refine AL.rp rfl rfl (rp_lssF rfl rfl rfl (by first | assumption | omega | (dsimp only; omega))) ?_) | (refine AL.rp rfl rfl (rp_lss rfl rfl rfl) ?_))
  refine AL.nil ?_
  try simp only [thenS, S.put]
  refine AW.condT rfl ?_
  refine AW.skip ?_
  try simp only [thenS]
  refine AW.seq ?_
  refine AW.block ?_
  refine AW.seq ?_
  refine AW.draw [(0, true), (1, true), (2, true), (3, true), (4, true), (5, true), (6, true), (7, true), (8, true), (9, true), (10, true), (11, true), (12, true), (13, true), (14, true), (15, true), (16, true), (17, true), (18, true), (19, true), (20, true), (21, true), (22, true), (23, true), (24, true), (25, true), (26, false), (27, false), (28, false)] (fun i => !([] : List Nat).contains i) 29 (by kernel_rfl) (by kernel_rfl) rfl (by kernel_rfl) ?_
  (first | (refine AD1.rp rfl rfl rfl (fun _ _ h => h) (rp_field_ref Try.underlying24 rfl rfl rfl inf22 (by decide) rfl) ?_) | (refine AD1.rp rfl rfl rfl (fun _ _ h => h) (rp_field_ad Try.underlying24 rfl rfl rfl inf22 (by decide) rfl) ?_))
  (first | (refine AD1.rd rfl rfl rfl (fun _ _ h => h) (rd_load_ref Try.underlying22 rfl rfl rfl rfl rfl rfl) ?_) | (refine AD1.rd rfl rfl rfl (fun _ _ h => h) (rd_load_ad Try.underlying22 rfl rfl rfl rfl) ?_) | (refine AD1.rd rfl rfl rfl (fun _ _ h => h) (rd_load_map Try.underlying22 rfl rfl rfl rfl rfl rfl (by assumption)) ?_))
  refine AD1.rp rfl rfl rfl (fun _ _ h => h) (rp_move rfl rfl) ?_
  (first | (refine AD1.rp rfl rfl rfl (fun _ _ h => h) (rp_index_map Try.underlying22 inf50 rfl rfl rfl rfl (by assumption)) ?_) | (refine AD1.rp rfl rfl rfl (fun _ _ h => h) (rp_index_own Try.underlying22 inf50 rfl rfl rfl rfl (by first | assumption | omega)) ?_) | (refine AD1.rp rfl rfl rfl (fun _ _ h => h) (rd_index_sl Try.underlying22 inf50 rfl rfl rfl rfl (by assumption)) ?_) | (refine AD1.rp rfl rfl rfl (fun _ _ h => h) (rp_index_own Try.underlying22 inf50 rfl rfl rfl (by omega) (by omega)) ?_))
  (first | (refine AD1.rp rfl rfl rfl (fun _ _ h => h) (rp_field_ref Try.underlying50 rfl rfl rfl inf3 (by decide) rfl) ?_) | (refine AD1.rp rfl rfl rfl (fun _ _ h => h) (rp_field_ad Try.underlying50 rfl rfl rfl inf3 (by decide) rfl) ?_))
  (first | (refine AD1.rd rfl rfl rfl (fun _ _ h => h) (rd_load_ref Try.underlying3 rfl rfl rfl rfl rfl rfl) ?_) | (refine AD1.rd rfl rfl rfl (fun _ _ h => h) (rd_load_ad Try.underlying3 rfl rfl rfl rfl) ?_) | (refine AD1.rd rfl rfl rfl (fun _ _ h => h) (rd_load_map Try.underlying3 rfl rfl rfl rfl rfl rfl (by assumption)) ?_))
  (first | (refine AD1.rp rfl rfl rfl (fun _ _ h => h) (rp_field_ref Try.underlying24 rfl rfl rfl inf22 (by decide) rfl) ?_) | (refine AD1.rp rfl rfl rfl (fun _ _ h => h) (rp_field_ad Try.underlying24 rfl rfl rfl inf22 (by decide) rfl) ?_))
  (first | (refine AD1.rd rfl rfl rfl (fun _ _ h => h) (rd_load_ref Try.underlying22 rfl rfl rfl rfl rfl rfl) ?_) | (refine AD1.rd rfl rfl rfl (fun _ _ h => h) (rd_load_ad Try.underlying22 rfl rfl rfl rfl) ?_) | (refine AD1.rd rfl rfl rfl (fun _ _ h => h) (rd_load_map Try.underlying22 rfl rfl rfl rfl rfl rfl (by assumption)) ?_))
  refine AD1.rp rfl rfl rfl (fun _ _ h => h) (rp_move rfl rfl) ?_
  (first | (refine AD1.rp rfl rfl rfl (fun _ _ h => h) (rp_index_map Try.underlying22 inf50 rfl rfl rfl rfl (by assumption)) ?_) | (refine AD1.rp rfl rfl rfl (fun _ _ h => h) (rp_index_own Try.underlying22 inf50 rfl rfl rfl rfl (by first | assumption | omega)) ?_) | (refine AD1.rp rfl rfl rfl (fun _ _ h => h) (rd_index_sl Try.underlying22 inf50 rfl rfl rfl rfl (by assumption)) ?_) | (refine AD1.rp rfl rfl rfl (fun _ _ h => h) (rp_index_own Try.underlying22 inf50 rfl rfl rfl (by omega) (by omega)) ?_))
  (first | (refine AD1.rp rfl rfl rfl (fun _ _ h => h) (rp_field_ref Try.underlying50 rfl rfl rfl inf3 (by decide) rfl) ?_) | (refine AD1.rp rfl rfl rfl (fun _ _ h => h) (rp_field_ad Try.underlying50 rfl rfl rfl inf3 (by decide) rfl) ?_))
  (first | (refine AD1.rd rfl rfl rfl (fun _ _ h => h) (rd_load_ref Try.underlying3 rfl rfl rfl rfl rfl rfl) ?_) | (refine AD1.rd rfl rfl rfl (fun _ _ h => h) (rd_load_ad Try.underlying3 rfl rfl rfl rfl) ?_) | (refine AD1.rd rfl rfl rfl (fun _ _ h => h) (rd_load_map Try.underlying3 rfl rfl rfl rfl rfl rfl (by assumption)) ?_))
  (first | (refine AD1.rp rfl rfl rfl (fun _ _ h => h) (rp_neqT rfl rfl rfl (by first | assumption | omega | (dsimp only; omega))) ?_) | (refine AD1.rp rfl rfl rfl (fun _ _ h => h) (rp_neqF rfl rfl rfl (by first | assumption | omega | (dsimp only; omega))) ?_) | (refine AD1.rp rfl rfl rfl (fun _ _ h => h) (rp_neq rfl rfl rfl) ?_))
  refine AD1.rp rfl rfl rfl (fun _ _ h => h) (rp_move rfl rfl) ?_
  (first | (refine AD1.no rfl rfl rfl rfl rfl (fun _ _ h => h) ?_) | (refine AD1.rpy rfl rfl rfl rfl (fun _ _ h => h) (rp_field_ref Try.underlying24 rfl rfl rfl inf22 (by decide) rfl) ?_) | (refine AD1.rpy rfl rfl rfl rfl (fun _ _ h => h) (rp_field_ad Try.underlying24 rfl rfl rfl inf22 (by decide) rfl) ?_))
  (first | (refine AD1.no rfl rfl rfl rfl rfl (fun _ _ h => h) ?_) | (refine AD1.rdy rfl rfl rfl rfl (fun _ _ h => h) (rd_load_ref Try.underlying22 rfl rfl rfl rfl rfl rfl) ?_) | (refine AD1.rdy rfl rfl rfl rfl (fun _ _ h => h) (rd_load_ad Try.underlying22 rfl rfl rfl rfl) ?_) | (refine AD1.rdy rfl rfl rfl rfl (fun _ _ h => h) (rd_load_map Try.underlying22 rfl rfl rfl rfl rfl rfl (by assumption)) ?_))
  (first | (refine AD1.no rfl rfl rfl rfl rfl (fun _ _ h => h) ?_) | (refine AD1.rpy rfl rfl rfl rfl (fun _ _ h => h) (rp_move rfl rfl) ?_))
  (first | (refine AD1.no rfl rfl rfl rfl rfl (fun _ _ h => h) ?_) | (refine AD1.rpy rfl rfl rfl rfl (fun _ _ h => h) (rp_index_map Try.underlying22 inf50 rfl rfl rfl rfl (by assumption)) ?_) | (refine AD1.rpy rfl rfl rfl rfl (fun _ _ h => h) (rp_index_own Try.underlying22 inf50 rfl rfl rfl rfl (by first | assumption | omega)) ?_) | (refine AD1.rpy rfl rfl rfl rfl (fun _ _ h => h) (rd_index_sl Try.underlying22 inf50 rfl rfl rfl rfl (by assumption)) ?_) | (refine AD1.rpy rfl rfl rfl rfl (fun _ _ h => h) (rp_index_own Try.underlying22 inf50 rfl rfl rfl (by omega) (by omega)) ?_))
  (first | (refine AD1.no rfl rfl rfl rfl rfl (fun _ _ h => h) ?_) | (refine AD1.rpy rfl rfl rfl rfl (fun _ _ h => h) (rp_field_ref Try.underlying50 rfl rfl rfl inf48 (by decide) rfl) ?_) | (refine AD1.rpy rfl rfl rfl rfl (fun _ _ h => h) (rp_field_ad Try.underlying50 rfl rfl rfl inf48 (by decide) rfl) ?_))
  (first | (refine AD1.no rfl rfl rfl rfl rfl (fun _ _ h => h) ?_) | (refine AD1.rdy rfl rfl rfl rfl (fun _ _ h => h) (rd_load_ref Try.underlying48 rfl rfl rfl rfl rfl rfl) ?_) | (refine AD1.rdy rfl rfl rfl rfl (fun _ _ h => h) (rd_load_ad Try.underlying48 rfl rfl rfl rfl) ?_) | (refine AD1.rdy rfl rfl rfl rfl (fun _ _ h => h) (rd_load_map Try.underlying48 rfl rfl rfl rfl rfl rfl (by assumption)) ?_))
  (first | (refine AD1.no rfl rfl rfl rfl rfl (fun _ _ h => h) ?_) | (refine AD1.rpy rfl rfl rfl rfl (fun _ _ h => h) (rp_field_ref Try.underlying24 rfl rfl rfl inf22 (by decide) rfl) ?_) | (refine AD1.rpy rfl rfl rfl rfl (fun _ _ h => h) (rp_field_ad Try.underlying24 rfl rfl rfl inf22 (by decide) rfl) ?_))
  (first | (refine AD1.no rfl rfl rfl rfl rfl (fun _ _ h => h) ?_) | (refine AD1.rdy rfl rfl rfl rfl (fun _ _ h => h) (rd_load_ref Try.underlying22 rfl rfl rfl rfl rfl rfl) ?_) | (refine AD1.rdy rfl rfl rfl rfl (fun _ _ h => h) (rd_load_ad Try.underlying22 rfl rfl rfl rfl) ?_) | (refine AD1.rdy rfl rfl rfl rfl (fun _ _ h => h) (rd_load_map Try.underlying22 rfl rfl rfl rfl rfl rfl (by assumption)) ?_))
  (first | (refine AD1.no rfl rfl rfl rfl rfl (fun _ _ h => h) ?_) | (refine AD1.rpy rfl rfl rfl rfl (fun _ _ h => h) (rp_move rfl rfl) ?_))
  (first | (refine AD1.no rfl rfl rfl rfl rfl (fun _ _ h => h) ?_) | (refine AD1.rpy rfl rfl rfl rfl (fun _ _ h => h) (rp_index_map Try.underlying22 inf50 rfl rfl rfl rfl (by assumption)) ?_) | (refine AD1.rpy rfl rfl rfl rfl (fun _ _ h => h) (rp_index_own Try.underlying22 inf50 rfl rfl rfl rfl (by first | assumption | omega)) ?_) | (refine AD1.rpy rfl rfl rfl rfl (fun _ _ h => h) (rd_index_sl Try.underlying22 inf50 rfl rfl rfl rfl (by assumption)) ?_) | (refine AD1.rpy rfl rfl rfl rfl (fun _ _ h => h) (rp_index_own Try.underlying22 inf50 rfl rfl rfl (by omega) (by omega)) ?_))
  (first | (refine AD1.no rfl rfl rfl rfl rfl (fun _ _ h => h) ?_) | (refine AD1.rpy rfl rfl rfl rfl (fun _ _ h => h) (rp_field_ref Try.underlying50 rfl rfl rfl inf48 (by decide) rfl) ?_) | (refine AD1.rpy rfl rfl rfl rfl (fun _ _ h => h) (rp_field_ad Try.underlying50 rfl rfl rfl inf48 (by decide) rfl) ?_))
  (first | (refine AD1.no rfl rfl rfl rfl rfl (fun _ _ h => h) ?_) | (refine AD1.rdy rfl rfl rfl rfl (fun _ _ h => h) (rd_load_ref Try.underlying48 rfl rfl rfl rfl rfl rfl) ?_) | (refine AD1.rdy rfl rfl rfl rfl (fun _ _ h => h) (rd_load_ad Try.underlying48 rfl rfl rfl rfl) ?_) | (refine AD1.rdy rfl rfl rfl rfl (fun _ _ h => h) (rd_load_map Try.underlying48 rfl rfl rfl rfl rfl rfl (by assumption)) ?_))
  refine AD1.go ?_
  (first | (refine AD2.no1 rfl rfl rfl rfl rfl ?_) | (refine AD2.cally (post := ?pc30) rfl rfl rfl (sm_call (args := [_, _]) ?hc30 ⟨Try.func54, rfl, rfl, rfl, rfl⟩ rfl rfl rfl rfl) ?_; (case hc30 => (exact am_SameArcs _)); rintro _ rfl -; try dsimp only))
  (first | (refine AD2.no1 rfl rfl rfl rfl rfl ?_) | (refine AD2.rp1y rfl rfl rfl rfl (rp_not rfl rfl) ?_))
  refine AD2.rp1 rfl rfl rfl (rp_pick rfl rfl rfl) ?_
  refine AD2.nil ?_
  try simp only [thenS, S.put, S.newObj, setL, V.cs, List.length_cons, List.length_nil, List.take_succ_cons, List.take_zero, List.drop_succ_cons, List.drop_zero, List.drop_nil, List.nil_append, List.cons_append, List.append_nil, Nat.zero_add, Nat.reduceAdd, List.map_cons, List.map_nil, List.set_cons_zero, List.set_cons_succ]
  refine AW.condF rfl ?_
  refine AW.skip ?_
  try simp only [thenS]
  refine AW.region ?_
  refine AL.rp rfl rfl (rp_move rfl rfl) ?_
  refine AL.rp rfl rfl (rp_add rfl rfl rfl (by first | omega | (dsimp only; omega))) ?_
  refine AL.rp rfl rfl (rp_assign rfl rfl) ?_
  refine AL.nil ?_
  try simp only [thenS, S.put]
  refine ⟨_, ?_, ⟨k + 1, by omega, rfl⟩, ?_⟩
  ·exact (Less.of rfl (by repeat (first | exact trivial | refine ⟨⟨_, rfl, Wk.refl _⟩, ?_⟩ | refine ⟨⟨_, rfl, Wk.nil _ _⟩, ?_⟩ | refine ⟨⟨_, rfl, Wk.junk _⟩, ?_⟩)) (by repeat (first | exact trivial | refine ⟨rfl, ?_⟩)) rfl)
  ·simp [S.nat, fnd]; omega
 ·skip
  refine AW.seq ?_
  refine AW.seq ?_
  refine AW.region ?_
  refine AL.rp rfl rfl (rp_move rfl rfl) ?_
  (first | (refine AL.rp rfl rfl (rp_field_ref Try.underlying24 rfl rfl rfl inf22 (by decide) rfl) ?_) | (refine AL.rp rfl rfl (rp_field_ad Try.underlying24 rfl rfl rfl inf22 (by decide) rfl) ?_))
  (first | (refine AL.rd rfl rfl (rd_load_ref Try.underlying22 rfl rfl rfl rfl rfl rfl) ?_) | (refine AL.rd rfl rfl (rd_load_ad Try.underlying22 rfl rfl rfl rfl) ?_) | (refine AL.rd rfl rfl (rd_load_map Try.underlying22 rfl rfl rfl rfl rfl rfl (by assumption)) ?_))
  (first | (refine AL.rp rfl rfl (rp_len_map Try.underlying22 rfl rfl (by assumption)) ?_) | (refine AL.rp rfl rfl (rp_len_own Try.underlying22 rfl rfl) ?_) | (refine AL.rp rfl rfl (rp_len_sl Try.underlying22 rfl rfl) ?_) | (refine AL.rp rfl rfl (rp_len_nil Try.underlying22 rfl rfl) ?_) | (refine AL.rp rfl rfl (rp_len_str Try.underlying22 rfl rfl) ?_))
  (first | (refine AL.rp rfl rfl (rp_lssT rfl rfl rfl (by first | assumption | omega | (dsimp only; omega))) ?_) | (refine AL.rp rfl rfl (rp_lssF rfl rfl rfl (by first | assumption | omega | (dsimp only; omega))) ?_) | (refine AL.rp rfl rfl (rp_lss rfl rfl rfl) ?_))
  refine AL.nil ?_
  try simp only [thenS, S.put]
  refine AW.condF rfl ?_
  refine AW.exit ?_
  try simp only [thenS, inBlockS, ↓reduceIte, Nat.reduceEqDiff]
  refine AW.seq ?_
  refine AW.region ?_
  refine AL.rp rfl rfl (rp_assign rfl rfl) ?_
  refine AL.nil ?_
  try simp only [thenS, S.put]
  refine AW.ret ?_
  exact ⟨[_], ⟨rfl, trivial⟩, rfl, by simp [tupOf, V.pure, V.has]⟩
theorem am_sameMachine (m : Mach) : Fn Try.prog 12 [mV m, mV m] (fun v => v = .b true) := by
 refine Fn.intro (n := 8) ⟨Try.func12, rfl, rfl, rfl, rfl⟩ (by simp [V.pure, V.has, V.hasL]) (by simp) fun w0 out => ?_
 refine AW.seq ?_
 refine AW.region ?_
 refine AL.sm rfl (sm_box 2 rfl rfl rfl (by first | rfl | simp [S.clean, S.put, S.newObj, S.forget, V.has, V.hasL, junkIf, setL, V.cs, hasL_i, hasL_d, hasL_b, hasL_s, hasL_n, hasL_rep, hasL_flat, hasL_append, -List.map_set]) rfl) ?_
 refine AL.sm rfl (sm_box 3 rfl rfl rfl (by first | rfl | simp [S.clean, S.put, S.newObj, S.forget, V.has, V.hasL, junkIf, setL, V.cs, hasL_i, hasL_d, hasL_b, hasL_s, hasL_n, hasL_rep, hasL_flat, hasL_append, -List.map_set]) rfl) ?_
 refine AL.rp rfl rfl (rp_assign rfl rfl) ?_
 refine AL.nil ?_
 try simp only [thenS, S.put, S.newObj, setL, V.cs, List.length_cons, List.length_nil, List.take_succ_cons, List.take_zero, List.drop_succ_cons, List.drop_zero, List.drop_nil, List.nil_append, List.cons_append, List.append_nil, Nat.zero_add, Nat.reduceAdd, List.map_cons, List.map_nil, List.set_cons_zero, List.set_cons_succ, enum]
 refine AW.seq ?_
 refine AW.region ?_
 (first | (refine AL.rd rfl rfl (rd_loads_ref Try.underlying24 rfl inf24 rfl rfl rfl rfl rfl rfl) ?_) | (refine AL.rd rfl rfl (rd_loads_ad Try.underlying24 rfl inf24 rfl rfl rfl rfl) ?_))
 (first | (refine AL.rd rfl rfl (rd_loads_ref Try.underlying24 rfl inf24 rfl rfl rfl rfl rfl rfl) ?_) | (refine AL.rd rfl rfl (rd_loads_ad Try.underlying24 rfl inf24 rfl rfl rfl rfl) ?_))
 refine AL.call (post := ?pc31) rfl (sm_call (args := [_, _]) ?hc31 ⟨Try.func34, rfl, rfl, rfl, rfl⟩ rfl rfl rfl rfl) ?_
 case hc31 => exact am_SameMachine _
 rintro _ rfl -
 try dsimp only
 refine AL.rp rfl rfl (rp_assign rfl rfl) ?_
 refine AL.nil ?_
 try simp only [thenS, S.put, S.newObj, setL, V.cs, List.length_cons, List.length_nil, List.take_succ_cons, List.take_zero, List.drop_succ_cons, List.drop_zero, List.drop_nil, List.nil_append, List.cons_append, List.append_nil, Nat.zero_add, Nat.reduceAdd, List.map_cons, List.map_nil, List.set_cons_zero, List.set_cons_succ]
 refine AW.ret ?_
 exact ⟨[_], ⟨rfl, trivial⟩, rfl, by simp [tupOf, V.pure, V.has]⟩
end Go.Proofs.Ythlcginebeapdaa
namespace Go.Proofs.Ythlcginebeapdaa
open Go.RowKit
set_option linter.unusedSimpArgs false
set_option linter.unusedVariables false
set_option maxRecDepth 100000

abbrev stV (s : St) : List V := (stD s).map V.d
theorem am_machine (m : Mach) : Fn Try.prog 9 [mV m] (fun v => v = mV m) := by
 refine Fn.mach m 0 rfl fun hb _ => ?_
 obtain ⟨st, sts⟩ := m
 obtain ⟨n, hn⟩ : ∃ n, sts.length = n := ⟨_, rfl⟩
 simp only [hn] at hb
 refine Fn.intro (n := 35) ⟨Try.func9, rfl, rfl, rfl, rfl⟩ (by simp [V.pure, V.has, V.hasL]) (by simp) fun w0 out => ?_
 refine AW.seq ?_
 refine AW.region ?_
 refine AL.sm rfl (sm_box 1 rfl rfl rfl (by first | rfl | simp [S.clean, S.put, S.newObj, S.forget, V.has, V.hasL, junkIf, setL, V.cs, hasL_i, hasL_d, hasL_b, hasL_s, hasL_n, hasL_rep, hasL_flat, hasL_append, -List.map_set]) rfl) ?_
 refine AL.sm rfl (sm_alloc (l := [.d (.p (.int .i64 0)), .d (.p (.slice none 0 0))]) 2 inf24 rfl (by first | rfl | simp [S.clean, S.put, S.newObj, S.forget, V.has, V.hasL, junkIf, setL, V.cs, hasL_i, hasL_d, hasL_b, hasL_s, hasL_n, hasL_rep, hasL_flat, hasL_append, -List.map_set]) rfl rfl) ?_
 refine AL.nil ?_
 try simp only [thenS, S.put, S.newObj, setL, V.cs, List.length_cons, List.length_nil, List.take_succ_cons, List.take_zero, List.drop_succ_cons, List.drop_zero, List.drop_nil, List.nil_append, List.cons_append, List.append_nil, Nat.zero_add, Nat.reduceAdd, List.map_cons, List.map_nil, List.set_cons_zero, List.set_cons_succ, enum]
 refine AW.seq ?_
 refine AW.region ?_
 (first | (refine AL.rp rfl rfl (rp_field_ref Try.underlying24 rfl rfl rfl inf3 (by decide) rfl) ?_) | (refine AL.rp rfl rfl (rp_field_ad Try.underlying24 rfl rfl rfl inf3 (by decide) rfl) ?_))
 (first | (refine AL.rd rfl rfl (rd_load_ref Try.underlying3 rfl rfl rfl rfl rfl rfl) ?_) | (refine AL.rd rfl rfl (rd_load_ad Try.underlying3 rfl rfl rfl rfl) ?_) | (refine AL.rd rfl rfl (rd_load_map Try.underlying3 rfl rfl rfl rfl rfl rfl (by assumption)) ?_))
 refine AL.rp rfl rfl (rp_build (vs := [(0, _)]) (zs := [.d (.p (.int .i64 0)), .d (.p (.slice none 0 0))]) pl24 inf24 rfl rfl rfl rfl) ?_
 refine AL.sm rfl (sm_alloc (l := [.d (.p (.int .i64 0)), .d (.p (.slice none 0 0))]) 3 inf24 rfl (by first | rfl | simp [S.clean, S.put, S.newObj, S.forget, V.has, V.hasL, junkIf, setL, V.cs, hasL_i, hasL_d, hasL_b, hasL_s, hasL_n, hasL_rep, hasL_flat, hasL_append, -List.map_set]) rfl rfl) ?_
 refine AL.st rfl (st_store_any inf24 rfl rfl rfl rfl rfl rfl rfl rfl (by first | decide | (simp; done) | (simp; omega)) rfl) ?_
 refine AL.nil ?_
 try simp only [thenS, S.put, S.newObj, setL, V.cs, List.length_cons, List.length_nil, List.take_succ_cons, List.take_zero, List.drop_succ_cons, List.drop_zero, List.drop_nil, List.nil_append, List.cons_append, List.append_nil, Nat.zero_add, Nat.reduceAdd, List.map_cons, List.map_nil, List.set_cons_zero, List.set_cons_succ]
 refine AW.seq ?_
 refine AW.seq ?_
 refine AW.region ?_
 refine AL.rp rfl rfl (rp_assign rfl rfl) ?_
 refine AL.nil ?_
 try simp only [thenS, S.put]
 refine AW.block ?_
 refine AW.adoptH 3 1 100 2 50 rfl rfl rfl (by simp [S.clean, V.has, V.hasL, V.cs, setL]) ?_
 refine AW.loop (fun s' => ∃ k : Nat, k ≤ n ∧ s' = ⟨35, [(1, .ref 1 0), (2, .ref 2 0), (3, .ref 3 0), (4, .i k)], [(1, ⟨24, [.i st, .d (stsD sts)], false, 0⟩), (2, ⟨24, [.i 0, .nil], false, 0⟩),
  (3, ⟨24, [.i st, .own 100 2 k (decide (k = 0))], false, 0⟩), (100, ⟨50, (sts.take k).flatMap stV, decide (k = 0), 2⟩)], []⟩) (fun s' => n - s'.nat 4) ⟨_, ?_, 0, by omega, rfl⟩ ?_
 ·exact (Less.of rfl (by repeat (first | exact trivial | refine ⟨⟨_, rfl, Wk.refl _⟩, ?_⟩ | refine ⟨⟨_, rfl, Wk.nil _ _⟩, ?_⟩ | refine ⟨⟨_, rfl, Wk.junk _⟩, ?_⟩)) (by repeat (first | exact trivial | refine ⟨rfl, ?_⟩)) rfl)
 rintro s' ⟨k, hk, rfl⟩
 by_cases hlt : k < n
 ·obtain ⟨x, hx⟩ := get_lt hn hlt
  have hfl : ((sts.take k).flatMap stV).length = k * 2 := by rw [flat_len (sz := 2) (fun _ => rfl), List.length_take]; omega
  have hsn : (sts.take (k + 1)).flatMap stV = (sts.take k).flatMap stV ++ stV x := by rw [take_snoc hx]; simp
  refine AW.seq ?_
  refine AW.seq ?_
  refine AW.region ?_
  refine AL.rp rfl rfl (rp_move rfl rfl) ?_
  (first | (refine AL.rp rfl rfl (rp_field_ref Try.underlying24 rfl rfl rfl inf22 (by decide) rfl) ?_) | (refine AL.rp rfl rfl (rp_field_ad Try.underlying24 rfl rfl rfl inf22 (by decide) rfl) ?_))
  (first | (refine AL.rd rfl rfl (rd_load_ref Try.underlying22 rfl rfl rfl rfl rfl rfl) ?_) | (refine AL.rd rfl rfl (rd_load_ad Try.underlying22 rfl rfl rfl rfl) ?_) | (refine AL.rd rfl rfl (rd_load_map Try.underlying22 rfl rfl rfl rfl rfl rfl (by assumption)) ?_))
  (first | (refine AL.rp rfl rfl (rp_len_map Try.underlying22 rfl rfl (by assumption)) ?_) | (refine AL.rp rfl rfl (rp_len_own Try.underlying22 rfl rfl) ?_) | (refine AL.rp rfl rfl (rp_len_sl Try.underlying22 rfl rfl) ?_) | (refine AL.rp rfl rfl (rp_len_nil Try.underlying22 rfl rfl) ?_) | (refine AL.rp rfl rfl (rp_len_str Try.underlying22 rfl rfl) ?_))
  (first | (refine AL.rp rfl rfl (rp_lssT rfl rfl rfl (by first | assumption | omega | (dsimp only; omega))) ?_) | (refine AL.rp rfl rfl (rp_lssF rfl rfl rfl (by first | assumption | omega | (dsimp only; omega))) ?_) | (refine AL.rp rfl rfl (rp_lss rfl rfl rfl) ?_))
  refine AL.nil ?_
  try simp only [thenS, S.put]
  refine AW.condT rfl ?_
  refine AW.skip ?_
  try simp only [thenS]
  refine AW.seq ?_
  refine AW.block ?_
  refine AW.draw [(0, true), (1, true), (2, true), (3, true), (4, true), (5, true), (6, true), (7, true), (8, true), (9, true), (10, true), (11, true), (12, true), (13, true), (14, false), (15, false), (16, false), (17, false), (18, false), (19, false)] (fun i => !([17, 18, 19] : List Nat).contains i) 20 (by kernel_rfl) (by kernel_rfl) rfl (by kernel_rfl) ?_
  (first | (refine AD1.rp rfl rfl rfl (fun _ _ h => h) (rp_field_ref Try.underlying24 rfl rfl rfl inf22 (by decide) rfl) ?_) | (refine AD1.rp rfl rfl rfl (fun _ _ h => h) (rp_field_ad Try.underlying24 rfl rfl rfl inf22 (by decide) rfl) ?_))
  (first | (refine AD1.rd rfl rfl rfl (fun _ _ h => h) (rd_load_ref Try.underlying22 rfl rfl rfl rfl rfl rfl) ?_) | (refine AD1.rd rfl rfl rfl (fun _ _ h => h) (rd_load_ad Try.underlying22 rfl rfl rfl rfl) ?_) | (refine AD1.rd rfl rfl rfl (fun _ _ h => h) (rd_load_map Try.underlying22 rfl rfl rfl rfl rfl rfl (by assumption)) ?_))
  (first | (refine AD1.rp rfl rfl rfl (fun _ _ h => h) (rp_field_ref Try.underlying24 rfl rfl rfl inf22 (by decide) rfl) ?_) | (refine AD1.rp rfl rfl rfl (fun _ _ h => h) (rp_field_ad Try.underlying24 rfl rfl rfl inf22 (by decide) rfl) ?_))
  (first | (refine AD1.rd rfl rfl rfl (fun _ _ h => h) (rd_load_ref Try.underlying22 rfl rfl rfl rfl rfl rfl) ?_) | (refine AD1.rd rfl rfl rfl (fun _ _ h => h) (rd_load_ad Try.underlying22 rfl rfl rfl rfl) ?_) | (refine AD1.rd rfl rfl rfl (fun _ _ h => h) (rd_load_map Try.underlying22 rfl rfl rfl rfl rfl rfl (by assumption)) ?_))
  refine AD1.rp rfl rfl rfl (fun _ _ h => h) (rp_move rfl rfl) ?_
  (first | (refine AD1.rp rfl rfl rfl (fun _ _ h => h) (rp_index_map Try.underlying22 inf50 rfl rfl rfl rfl (by assumption)) ?_) | (refine AD1.rp rfl rfl rfl (fun _ _ h => h) (rp_index_own Try.underlying22 inf50 rfl rfl rfl rfl (by first | assumption | omega)) ?_) | (refine AD1.rp rfl rfl rfl (fun _ _ h => h) (rd_index_sl Try.underlying22 inf50 rfl rfl rfl rfl (by assumption)) ?_) | (refine AD1.rp rfl rfl rfl (fun _ _ h => h) (rp_index_own Try.underlying22 inf50 rfl rfl rfl (by omega) (by omega)) ?_))
  (first | (refine AD1.rp rfl rfl rfl (fun _ _ h => h) (rp_field_ref Try.underlying50 rfl rfl rfl inf3 (by decide) rfl) ?_) | (refine AD1.rp rfl rfl rfl (fun _ _ h => h) (rp_field_ad Try.underlying50 rfl rfl rfl inf3 (by decide) rfl) ?_))
  (first | (refine AD1.rd rfl rfl rfl (fun _ _ h => h) (rd_load_ref Try.underlying3 rfl rfl rfl rfl rfl rfl) ?_) | (refine AD1.rd rfl rfl rfl (fun _ _ h => h) (rd_load_ad Try.underlying3 rfl rfl rfl rfl) ?_) | (refine AD1.rd rfl rfl rfl (fun _ _ h => h) (rd_load_map Try.underlying3 rfl rfl rfl rfl rfl rfl (by assumption)) ?_))
  (first | (refine AD1.rp rfl rfl rfl (fun _ _ h => h) (rp_field_ref Try.underlying24 rfl rfl rfl inf22 (by decide) rfl) ?_) | (refine AD1.rp rfl rfl rfl (fun _ _ h => h) (rp_field_ad Try.underlying24 rfl rfl rfl inf22 (by decide) rfl) ?_))
  (first | (refine AD1.rd rfl rfl rfl (fun _ _ h => h) (rd_load_ref Try.underlying22 rfl rfl rfl rfl rfl rfl) ?_) | (refine AD1.rd rfl rfl rfl (fun _ _ h => h) (rd_load_ad Try.underlying22 rfl rfl rfl rfl) ?_) | (refine AD1.rd rfl rfl rfl (fun _ _ h => h) (rd_load_map Try.underlying22 rfl rfl rfl rfl rfl rfl (by assumption)) ?_))
  refine AD1.rp rfl rfl rfl (fun _ _ h => h) (rp_move rfl rfl) ?_
  (first | (refine AD1.rp rfl rfl rfl (fun _ _ h => h) (rp_index_map Try.underlying22 inf50 rfl rfl rfl rfl (by assumption)) ?_) | (refine AD1.rp rfl rfl rfl (fun _ _ h => h) (rp_index_own Try.underlying22 inf50 rfl rfl rfl rfl (by first | assumption | omega)) ?_) | (refine AD1.rp rfl rfl rfl (fun _ _ h => h) (rd_index_sl Try.underlying22 inf50 rfl rfl rfl rfl (by assumption)) ?_) | (refine AD1.rp rfl rfl rfl (fun _ _ h => h) (rp_index_own Try.underlying22 inf50 rfl rfl rfl (by omega) (by omega)) ?_))
  (first | (refine AD1.rp rfl rfl rfl (fun _ _ h => h) (rp_field_ref Try.underlying50 rfl rfl rfl inf48 (by decide) rfl) ?_) | (refine AD1.rp rfl rfl rfl (fun _ _ h => h) (rp_field_ad Try.underlying50 rfl rfl rfl inf48 (by decide) rfl) ?_))
  (first | (refine AD1.rd rfl rfl rfl (fun _ _ h => h) (rd_load_ref Try.underlying48 rfl rfl rfl rfl rfl rfl) ?_) | (refine AD1.rd rfl rfl rfl (fun _ _ h => h) (rd_load_ad Try.underlying48 rfl rfl rfl rfl) ?_) | (refine AD1.rd rfl rfl rfl (fun _ _ h => h) (rd_load_map Try.underlying48 rfl rfl rfl rfl rfl rfl (by assumption)) ?_))
  refine AD1.go ?_
  refine AD2.sm rfl rfl (sm_clone Try.underlying48 inf54 rfl (by decide) (by decide) (by decide) rfl rfl rfl (by first | (simp [arD, D.one, Value.oneCell']; done) | assumption) rfl) ?_
  refine AD2.rp1 rfl rfl rfl (rp_build (vs := [(0, _), (1, _)]) (zs := [.d (.p (.int .i64 0)), .d (.p (.slice none 0 0))]) pl50 inf50 rfl rfl rfl rfl) ?_
  refine AD2.sm rfl rfl (sm_slice (vs := [(0, _)]) (zs := [.d (.p (.int .i64 0)), .d (.p (.slice none 0 0))]) 31 Try.underlying22 inf50 rfl rfl (by decide) (by decide) (by decide) rfl rfl rfl rfl (by first | rfl | simp [S.clean, S.put, S.newObj, S.forget, V.has, V.hasL, junkIf, setL, V.cs, hasL_i, hasL_d, hasL_b, hasL_s, hasL_n, hasL_rep, hasL_flat, hasL_append, -List.map_set]) (by first | rfl | simp [S.clean, S.put, S.newObj, S.forget, V.has, V.hasL, junkIf, setL, V.cs, hasL_i, hasL_d, hasL_b, hasL_s, hasL_n, hasL_rep, hasL_flat, hasL_append, -List.map_set]) rfl) ?_
  refine AD2.go ?_
  refine AD3.st rfl rfl rfl (st_appendF Try.underlying22 inf50 rfl (by decide) rfl rfl rfl rfl rfl rfl (by first | assumption | rfl | (simp; done)) (by first | rfl | simp [S.clean, S.put, S.newObj, S.forget, V.has, V.hasL, junkIf, setL, V.cs, hasL_i, hasL_d, hasL_b, hasL_s, hasL_n, hasL_rep, hasL_flat, hasL_append, -List.map_set]) rfl rfl rfl rfl rfl (by first | rfl | simp [S.clean, S.put, S.newObj, S.forget, V.has, V.hasL, junkIf, setL, V.cs, hasL_i, hasL_d, hasL_b, hasL_s, hasL_n, hasL_rep, hasL_flat, hasL_append, -List.map_set]) rfl (by decide) (by omega) (by omega) rfl) ?_
  simp only [S.forget, S.put, S.newObj, junkIf, V.has, V.hasL, hasL_i, hasL_b, hasL_s, hasL_d, hasL_n, hasL_rep, hasL_flat, hasL_append, List.map_cons, List.map_nil, List.filter_cons, List.filter_nil, Nat.reduceBNe, Nat.reduceBEq, eq_self, bne_self_eq_false,  Bool.not_true, Bool.not_false, Bool.or_false, Bool.or_true, Bool.false_or, Bool.true_or, if_true, if_false, Bool.false_eq_true, ite_true, ite_false, ↓reduceIte, beq_self_eq_true, Nat.reduceEqDiff]
  (first | (refine AD3.rp1 rfl rfl rfl rfl (rp_field_ref Try.underlying24 rfl rfl rfl inf22 (by decide) rfl) ?_) | (refine AD3.rp1 rfl rfl rfl rfl (rp_field_ad Try.underlying24 rfl rfl rfl inf22 (by decide) rfl) ?_))
  (first | (refine AD3.st rfl rfl rfl (st_store_map2 inf22 rfl rfl rfl rfl rfl rfl rfl rfl (by first | assumption | omega)) ?_) | (refine AD3.st rfl rfl rfl (st_store inf22 rfl rfl rfl rfl rfl rfl rfl (by first | decide | (simp; done)) rfl) ?_))
  refine AD3.nil ?_
  try simp only [thenS, S.put, S.newObj, setL, V.cs, List.length_cons, List.length_nil, List.take_succ_cons, List.take_zero, List.drop_succ_cons, List.drop_zero, List.drop_nil, List.nil_append, List.cons_append, List.append_nil, Nat.zero_add, Nat.reduceAdd, List.map_cons, List.map_nil, List.set_cons_zero, List.set_cons_succ]
  refine AW.region ?_
  refine AL.rp rfl rfl (rp_move rfl rfl) ?_
  refine AL.rp rfl rfl (rp_add rfl rfl rfl (by first | omega | (dsimp only; omega))) ?_
  refine AL.rp rfl rfl (rp_assign rfl rfl) ?_
  refine AL.nil ?_
  try simp only [thenS, S.put]
  refine ⟨_, ?_, ⟨k + 1, by omega, rfl⟩, ?_⟩
  ·rw [hsn]; exact (Less.of rfl (by repeat (first | exact trivial | refine ⟨⟨_, rfl, Wk.refl _⟩, ?_⟩ | refine ⟨⟨_, rfl, Wk.nil _ _⟩, ?_⟩ | refine ⟨⟨_, rfl, Wk.junk _⟩, ?_⟩)) (by repeat (first | exact trivial | refine ⟨rfl, ?_⟩)) rfl)
  ·simp [S.nat, fnd]; omega
 ·skip
  refine AW.seq ?_
  refine AW.seq ?_
  refine AW.region ?_
  refine AL.rp rfl rfl (rp_move rfl rfl) ?_
  (first | (refine AL.rp rfl rfl (rp_field_ref Try.underlying24 rfl rfl rfl inf22 (by decide) rfl) ?_) | (refine AL.rp rfl rfl (rp_field_ad Try.underlying24 rfl rfl rfl inf22 (by decide) rfl) ?_))
  (first | (refine AL.rd rfl rfl (rd_load_ref Try.underlying22 rfl rfl rfl rfl rfl rfl) ?_) | (refine AL.rd rfl rfl (rd_load_ad Try.underlying22 rfl rfl rfl rfl) ?_) | (refine AL.rd rfl rfl (rd_load_map Try.underlying22 rfl rfl rfl rfl rfl rfl (by assumption)) ?_))
  (first | (refine AL.rp rfl rfl (rp_len_map Try.underlying22 rfl rfl (by assumption)) ?_) | (refine AL.rp rfl rfl (rp_len_own Try.underlying22 rfl rfl) ?_) | (refine AL.rp rfl rfl (rp_len_sl Try.underlying22 rfl rfl) ?_) | (refine AL.rp rfl rfl (rp_len_nil Try.underlying22 rfl rfl) ?_) | (refine AL.rp rfl rfl (rp_len_str Try.underlying22 rfl rfl) ?_))
  (first | (refine AL.rp rfl rfl (rp_lssT rfl rfl rfl (by first | assumption | omega | (dsimp only; omega))) ?_) | (refine AL.rp rfl rfl (rp_lssF rfl rfl rfl (by first | assumption | omega | (dsimp only; omega))) ?_) | (refine AL.rp rfl rfl (rp_lss rfl rfl rfl) ?_))
  refine AL.nil ?_
  try simp only [thenS, S.put]
  refine AW.condF rfl ?_
  refine AW.exit ?_
  try simp only [thenS, inBlockS, ↓reduceIte, Nat.reduceEqDiff]
  refine AW.seq ?_
  obtain rfl : k = n := by omega
  rw [List.take_of_length_le (by omega)]
  refine AW.freezeH 3 1 32 (sts.map stD) rfl rfl rfl (by decide) rfl rfl (by simpa using hn) (by omega) (rowsF (enc := stD) (sz := 2) (l := sts) (fun _ => rfl) rfl) ?_
  refine AW.region ?_
  (first | (refine AL.rd rfl rfl (rd_loads_ref Try.underlying24 rfl inf24 rfl rfl rfl rfl rfl rfl) ?_) | (refine AL.rd rfl rfl (rd_loads_ad Try.underlying24 rfl inf24 rfl rfl rfl rfl) ?_))
  refine AL.st rfl (st_store_any inf24 rfl rfl rfl rfl rfl rfl rfl rfl (by first | decide | (simp; done) | (simp; omega)) rfl) ?_
  refine AL.nil ?_
  try simp only [thenS, S.put, S.newObj, setL, V.cs, List.length_cons, List.length_nil, List.take_succ_cons, List.take_zero, List.drop_succ_cons, List.drop_zero, List.drop_nil, List.nil_append, List.cons_append, List.append_nil, Nat.zero_add, Nat.reduceAdd, List.map_cons, List.map_nil, List.set_cons_zero, List.set_cons_succ]
  refine AW.ret ?_
  exact ⟨[_], ⟨⟨2, 0, _, _, rfl, rfl, rfl, Try.underlying24, .inr ⟨rfl, _, _, _, _, inf24, rfl, rfl, rfl⟩⟩, trivial⟩, rfl, by simp [tupOf, V.pure, V.has, V.hasL]⟩
end Go.Proofs.Ythlcginebeapdaa
namespace Go.Proofs.Ythlcginebeapdaa
open Go.RowKit
set_option linter.unusedSimpArgs false
set_option linter.unusedVariables false

/-- A value as a callee sees it that only reads. -/
inductive Ro (s : S) : V → V → Prop
  | refl (v : V) (hv : v.pure) : Ro s v v
  | ref (r k : Nat) (row : Row) (l : List D) (hr : fnd s.H r = some row) (hn : row.nil = false) (hl : row.cells.drop k = l.map V.d) : Ro s (.ref r k) (.ad l)
  | own (r sz n bt : Nat) (f : Bool) (row : Row) (rows : List (List D)) (hr : fnd s.H r = some row) (hf : row.nil = f) (hlen : rows.length = n) (hn : n * bt ≤ 140737488355328)
      (hrows : ∀ (i j : Nat) (l : List D) (u : D), rows[i]? = some l → l[j]? = some u → row.cells[i * sz + j]? = some (.d u)) : Ro s (.own r sz n f) (.d (.sl sz bt rows))
  | fn (f : FuncId) (us vs : List V) (hl : us.length = vs.length) (h : ∀ (j : Nat) (u v : V), us[j]? = some u → vs[j]? = some v → Ro s u v) : Ro s (.fn f us) (.fn f vs)
inductive Ros (s : S) : List V → List V → Prop
  | nil : Ros s [] []
  | cons {u v : V} {us vs : List V} (h : Ro s u v) (hs : Ros s us vs) : Ros s (u :: us) (v :: vs)
theorem Ros.get {s : S} {us vs : List V} (h : Ros s us vs) : us.length = vs.length ∧ ∀ (j : Nat) (u v : V), us[j]? = some u → vs[j]? = some v → Ro s u v := by
  induction h with
  | nil => exact ⟨rfl, by simp⟩
  | cons h hs ih =>
    refine ⟨by simp [ih.1], fun j u v hu hv => ?_⟩
    cases j with
    | zero => simp at hu hv; subst hu hv; exact h
    | succ j => exact ih.2 j u v (by simpa using hu) (by simpa using hv)
theorem Ro.fns {s : S} {f : FuncId} {us vs : List V} (h : Ros s us vs) : Ro s (.fn f us) (.fn f vs) := .fn f us vs h.get.1 h.get.2

/-- A value that hangs on no memory. -/
def V.plain : V → Prop
  | .d (.p _) => True
  | .tup l => ∀ v ∈ l, ∃ x, v = .d (.p x)
  | .agg l => ∀ v ∈ l, ∃ x, v = .d (.p x)
  | _ => False

section
variable {c : Cx} {s : S} {o : Oper} {g : Nat → Nat × Nat} {a : Act} {w : World}

theorem Ro.rep (hs : Sim c g s a w) {u v : V} (h : Ro s u v) : ∀ {x : Value}, VRep w (qt c s.H g) g u x → VRep w (fun b => ¬ c.out b) g v x := by
  have hq : ∀ b, qt c s.H g b → b < w.heap.size → ¬ c.out b := fun b hb _ => hb.1
  have hm : ∀ {v x}, VRep w (qt c s.H g) g v x → VRep w (fun b => ¬ c.out b) g v x := fun hv => hv.mono Cells.rfl hq (fun _ _ => rfl)
  have hob : ∀ r row, fnd s.H r = some row → row.nil = false → ¬ c.out (g r).1 := fun r row hr hn h => by
    have h1 := hs.low _ h
    have h2 := hs.base r row hr hn
    omega
  induction h with
  | refl v hv => intro x hx; exact hm hx
  | ref r k row l hr hn hl =>
    intro x hx
    cases hx
    obtain ⟨arr, h1, _, h2⟩ := hs.obj r row hr hn
    have hat : ∀ (j : Nat) (u : D), l[j]? = some u → row.cells[k + j]? = some (.d u) := by
      intro j u hu
      have : (row.cells.drop k)[j]? = some (.d u) := by rw [hl]; simp [hu]
      simpa using this
    refine .ad l (g r).1 k (fun j => arr.getD (k + j) undef) ⟨hob r row hr hn, (Array.getElem?_eq_some_iff.1 h1).1⟩ (fun j u hu => ?_) (fun j u hu => ?_)
    · obtain ⟨y, h3, _⟩ := h2 _ _ (hat j u hu)
      rw [cell_of_row w _ _ _ _ _ h1, h3]
      simp [Array.getD_eq_getD_getElem?, h3]
    · obtain ⟨y, h3, h4⟩ := h2 _ _ (hat j u hu)
      cases hm h4 with
      | d _ _ h5 => simpa [Array.getD_eq_getD_getElem?, h3] using h5
  | own r sz n bt f row rows hr hf hlen hn hrows =>
    intro x hx
    refine .d _ _ ?_
    cases hx with
    | own _ _ _ hle hcap =>
      obtain ⟨arr, h1, _, h2⟩ := hs.obj r row hr hf
      subst hlen
      refine .sl sz bt rows _ _ (g r).1 0 (fun i j => arr.getD (i * sz + j) undef) (by omega) (fun _ => ⟨rfl, hob r row hr hf, (Array.getElem?_eq_some_iff.1 h1).1⟩) hn ?_ ?_
      · intro i j l u hi hj
        obtain ⟨y, h3, _⟩ := h2 _ _ (hrows i j l u hi hj)
        rw [Nat.zero_add, cell_of_row w _ _ _ _ _ h1, h3]
        simp [Array.getD_eq_getD_getElem?, h3]
      · intro i j l u hi hj
        obtain ⟨y, h3, h4⟩ := h2 _ _ (hrows i j l u hi hj)
        cases hm h4 with
        | d _ _ h5 => simpa [Array.getD_eq_getD_getElem?, h3] using h5
    | ownNil =>
      have : rows = [] := by simpa using hlen
      subst this
      exact .sl sz bt [] none 0 0 0 (fun _ _ => undef) (Nat.le_refl 0) (fun h => absurd rfl h) (by simp) (by simp) (by simp)
  | fn f us vs hl h ih =>
    intro x hx
    cases hx with
    | fn _ _ cs hlen hh =>
      refine .fn f vs cs (by omega) fun j v y hv hy => ?_
      have hj : j < us.length := by rw [hl]; exact (List.getElem?_eq_some_iff.1 hv).1
      exact ih j us[j] v (List.getElem?_eq_getElem hj) hv (hh j us[j] y (List.getElem?_eq_getElem hj) hy)

theorem fn_eval (hs : Sim c g s a w) {fx : Operand} {f : FuncId} {caps : List V} (hfx : s.ev fx = some (.fn f caps)) : ∃ cs : List Value, a.eval fx = .func (.func f) #[] cs.toArray ∧ caps.length = cs.length ∧ ∀ (j : Nat) (u : V) (y : Value), caps[j]? = some u → cs[j]? = some y → VRep w (qt c s.H g) g u y := by
  have hfv := hs.ev hfx
  generalize a.eval fx = u at hfv
  cases hfv with
  | fn _ _ cs hl h => exact ⟨cs, rfl, hl, h⟩
theorem args_eval (hs : Sim c g s a w) {xs : Array Operand} {ars : List V} (hargs : xs.toList.map s.ev = ars.map some) : ars.length = (xs.toList.map a.eval).length ∧ ∀ (j : Nat) (u : V) (y : Value), ars[j]? = some u → (xs.toList.map a.eval)[j]? = some y → VRep w (qt c s.H g) g u y := by
  refine ⟨by simpa using (congrArg List.length hargs).symm, fun j u y hu hy => ?_⟩
  have h1 := congrArg (fun l => l[j]?) hargs
  simp only [List.getElem?_map, hu, Option.map_some] at h1 hy
  cases h2 : xs.toList[j]? with
  | none => rw [h2] at h1; cases h1
  | some p =>
    rw [h2] at h1 hy
    simp only [Option.map_some, Option.some.injEq] at h1 hy
    subst hy
    exact hs.ev h1

/-- A call, of a function or of a closure, that changes nothing and answers something plain; it may read the caller's objects. -/
theorem sm_callr {fx : Operand} {xs : Array Operand} {ts : Array TypeId} {f : FuncId} {fn : Func} {code : Code} {n : Nat} {rs : List ResultVar} {us caps args : List V} {post : V → Prop} (hfn : Fn c.P f args post) (hpl : ∀ v, post v → v.plain) (hf : Is c.P f fn code n rs) (ho : o.op = .call { callee := .value fx, args := xs, argTypes := ts })
    (hfx : s.ev fx = some (.fn f caps)) (hargs : xs.toList.map s.ev = us.map some) (hro : Ros s (us ++ caps) args) (hd : dok s o = true) : StepM c o s (fun s' => ∃ v, post v ∧ v.pure ∧ s' = s.put o.dst v) := by
  intro g a w hs K Q hK
  obtain ⟨cs, hfx', hcl, hcr⟩ := fn_eval hs hfx
  obtain ⟨hal, har⟩ := args_eval hs hargs
  obtain ⟨hrl, hrr⟩ := hro.get
  have hx : VReps w (fun b => ¬ c.out b) g args ((xs.toList.map a.eval) ++ cs) := by
    refine ⟨by rw [← hrl]; simp at hal ⊢; omega, fun j v y hv hy => ?_⟩
    have hj : j < (us ++ caps).length := by rw [hrl]; exact (List.getElem?_eq_some_iff.1 hv).1
    have hu := List.getElem?_eq_getElem hj
    refine (hrr j _ v hu hv).rep hs ?_
    by_cases h1 : j < us.length
    · rw [List.getElem?_append_left h1] at hu
      rw [List.getElem?_append_left (by omega)] at hy
      exact har j _ y hu hy
    · rw [List.getElem?_append_right (by omega)] at hu
      rw [List.getElem?_append_right (by omega), ← hal] at hy
      exact hcr _ _ y hu hy
  unfold Oper.wp
  rw [exec_call (caps := cs) hf ho hfx']
  simp only [Oper.upon]
  refine (hfn w c.out g _ (fun b h => Nat.lt_of_lt_of_le (hs.low b h) hs.below.size) hx).mono ?_
  rintro e w' ⟨v, x, rfl, h1, h2, h3, h4⟩
  refine hK g _ _ _ ⟨v, h1, h2, rfl⟩ ((hs.move h4).put o.dst (dok_spec hd) ?_) h4
  have hp := hpl v h1
  have hdp : ∀ {y z}, VRep w' (fun b => ¬ c.out b) g (.d (.p y)) z → VRep w' (qt c s.H g) g (.d (.p y)) z := fun h => by
    rw [VRep.p_eq h]; exact .d _ _ (.p _)
  cases v with
  | d dx =>
    cases dx with
    | p => exact hdp h3
    | sl => exact hp.elim
    | mp => exact hp.elim
    | mm => exact hp.elim
  | tup l =>
    cases h3 with
    | tup _ cs' hl hh =>
      refine .tup l cs' hl fun j u z hu hz => ?_
      obtain ⟨y, rfl⟩ := hp u (List.mem_of_getElem? hu)
      exact hdp (hh j _ z hu hz)
  | agg l =>
    cases h3 with
    | agg _ cs' hl hh =>
      refine .agg l cs' hl fun j u z hu hz => ?_
      obtain ⟨y, rfl⟩ := hp u (List.mem_of_getElem? hu)
      exact hdp (hh j _ z hu hz)
  | _ => exact hp.elim
/-- A call of a function value whose captured values are plain. -/
theorem sm_callv {fx : Operand} {xs : Array Operand} {ts : Array TypeId} {f : FuncId} {fn : Func} {code : Code} {n : Nat} {rs : List ResultVar} {args caps : List V} {post : V → Prop} (hfn : Fn c.P f (args ++ caps) post) (hf : Is c.P f fn code n rs) (ho : o.op = .call { callee := .value fx, args := xs, argTypes := ts })
    (hfx : s.ev fx = some (.fn f caps)) (hargs : xs.toList.map s.ev = args.map some) (hd : dok s o = true) : StepM c o s (fun s' => ∃ v, post v ∧ v.pure ∧ s' = s.put o.dst v) := by
  intro g a w hs K Q hK
  obtain ⟨cs, hfx', hcl, hcr⟩ := fn_eval hs hfx
  obtain ⟨hal, har⟩ := args_eval hs hargs
  have hx : VReps w (fun b => ¬ ¬ qt c s.H g b) g (args ++ caps) ((xs.toList.map a.eval) ++ cs) := by
    refine ⟨by simp at hal ⊢; omega, fun j u y hu hy => ?_⟩
    have hm : ∀ {v x}, VRep w (qt c s.H g) g v x → VRep w (fun b => ¬ ¬ qt c s.H g b) g v x := fun hv => hv.mono Cells.rfl (fun b hb _ => not_not_intro hb) (fun _ _ => rfl)
    refine hm ?_
    by_cases h1 : j < args.length
    · rw [List.getElem?_append_left h1] at hu
      rw [List.getElem?_append_left (by omega)] at hy
      exact har j _ y hu hy
    · rw [List.getElem?_append_right (by omega)] at hu
      rw [List.getElem?_append_right (by omega), ← hal] at hy
      exact hcr _ _ y hu hy
  unfold Oper.wp
  rw [exec_call (caps := cs) hf ho hfx']
  simp only [Oper.upon]
  refine (hfn w (fun b => ¬ qt c s.H g b) g _ ?_ hx).mono ?_
  · intro b hb
    rcases Classical.em (c.out b) with h | h
    · exact Nat.lt_of_lt_of_le (hs.low b h) hs.below.size
    · rcases Classical.em (∃ r row, fnd s.H r = some row ∧ row.nil = false ∧ (g r).1 = b) with ⟨r, row, h1, h2, rfl⟩ | h'
      · obtain ⟨arr, h3, _⟩ := hs.obj r row h1 h2
        exact (Array.getElem?_eq_some_iff.1 h3).1
      · exact absurd ⟨h, fun r row h1 h2 h3 => h' ⟨r, row, h1, h2, h3⟩⟩ hb
  · rintro e w' ⟨v, x, rfl, h1, h2, h3, h4⟩
    refine hK g _ _ _ ⟨v, h1, h2, rfl⟩ ((hs.move h4).put o.dst (dok_spec hd) ?_) h4
    exact h3.mono Cells.rfl (fun b hb _ => Classical.not_not.1 hb) (fun r _ => rfl)
end
end Go.Proofs.Ythlcginebeapdaa
