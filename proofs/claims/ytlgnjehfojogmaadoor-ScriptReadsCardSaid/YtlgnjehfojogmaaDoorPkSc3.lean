/- Part 3 of what the law ScriptReads rests on. -/
import Derived.Laws.RangeString
import Derived.Laws.Runes
import Derived.Lib.LaidTab
import Derived.Test.YtlgnjehfojogmaaDoorPkSc1
import Derived.Test.YtlgnjehfojogmaaDoorPkSc2
namespace Go.Proofs.YtlgnjehfojogmaaDoor
open Go.RowKit
set_option linter.unusedSimpArgs false
set_option linter.unusedVariables false

section
variable {c : Cx} {s : S} {o : Oper}
theorem st_enter (l : List Nat) {ts : List V} {f : FuncId} {fn : Func} {code : Code} {n : Nat} {rs : List ResultVar} {ars : List V} {N : S → Prop} (hts : l.map (fun i => fnd s.T i) = ts.map some) (hf : Is c.P f fn code n rs) (hn : ars.length ≤ n) (hd : dok s o = true)
    (hex : ∀ g a w, Sim c g s a w → ∃ xs : List Value, (execOp a.eval o).run c.P w = .ok (.enter f xs.toArray) w ∧ VReps w (qt c s.H g) g ars xs)
    (h : ∀ kx, AW ⟨c.P, c.w0, c.out, kx, []⟩ code (QI c.P rs s.n l o.dst N) ⟨n, enum 0 ars, s.H, ts ++ s.K⟩) : Step c o s N := by
  intro g a w hs K Q hK
  obtain ⟨xs, hrun, harl, harg⟩ := hex g a w hs
  have hll : l.length = ts.length := by simpa using congrArg List.length hts
  have hlt : ∀ (j i : Nat) (v : V), l[j]? = some i → ts[j]? = some v → fnd s.T i = some v := by
    intro j i v h1 h2
    have h3 := congrArg (fun l => l[j]?) hts
    simp only [List.getElem?_map, h1, h2, Option.map_some, Option.some.injEq] at h3
    exact h3
  have hlt' : ∀ (j i : Nat), l[j]? = some i → ∃ v x, ts[j]? = some v ∧ fnd s.T i = some v ∧ a.tmps[i]? = some x ∧ VRep w (qt c s.H g) g v x := by
    intro j i h1
    have hj : j < ts.length := by rw [← hll]; exact (List.getElem?_eq_some_iff.1 h1).1
    have h2 := hlt j i ts[j] h1 (List.getElem?_eq_getElem hj)
    obtain ⟨x, h3, h4⟩ := hs.tmp i _ h2
    exact ⟨_, x, List.getElem?_eq_getElem hj, h2, h3, h4⟩
  have hsim : Sim ⟨c.P, c.w0, c.out, l.map (fun i => a.tmps.getD i undef) ++ c.kx, []⟩ g ⟨n, enum 0 ars, s.H, ts ++ s.K⟩ { tmps := xs.toArray ++ Array.replicate (fn.ntmps - xs.toArray.size) undef, defers := [] } w := by
    refine ⟨?_, rfl, ?_, hs.nul, hs.obj, ?_, hs.inj, hs.base, hs.low, hs.below⟩
    · simp [hf.ntmps]; omega
    · intro i v hv
      obtain ⟨_, h2⟩ := fnd_enum _ 0 i v hv
      simp only [Nat.sub_zero] at h2
      have hi : i < xs.length := by
        have := (List.getElem?_eq_some_iff.1 h2).1
        omega
      refine ⟨xs[i], ?_, ?_⟩
      · rw [hf.ntmps]
        exact enter_get (List.getElem?_eq_getElem hi) (by omega)
      · exact harg i v _ h2 (List.getElem?_eq_getElem hi)
    · intro j v x h1 h2
      by_cases hj : j < ts.length
      · rw [List.getElem?_append_left hj] at h1
        rw [List.getElem?_append_left (by simp; omega)] at h2
        simp only [List.getElem?_map] at h2
        cases h3 : l[j]? with
        | none => rw [h3] at h2; cases h2
        | some i =>
          rw [h3] at h2
          simp only [Option.map_some, Option.some.injEq] at h2
          obtain ⟨v', x', h4, h5, h6, h7⟩ := hlt' j i h3
          rw [h4] at h1
          simp only [Option.some.injEq] at h1
          subst h1
          have : x = x' := by rw [← h2]; simp [Array.getD_eq_getD_getElem?, h6]
          subst this
          exact h7
      · rw [List.getElem?_append_right (by omega)] at h1
        rw [List.getElem?_append_right (by simp; omega)] at h2
        refine hs.keep (j - ts.length) v x h1 ?_
        simpa [hll] using h2
  unfold Oper.wp
  rw [hrun]
  simp only [Oper.upon]
  refine calls_of_wp hf.func hf.body (wp_mono (h (l.map (fun i => a.tmps.getD i undef) ++ c.kx) g _ w hsim) fun e a1 w1 hq => ?_)
  obtain ⟨g1, s1, h1, h2⟩ := hq
  have fin : (∃ vs, resL c.P s1 rs vs ∧ N (S.put ⟨s.n, l.zip s1.K, s1.H, s1.K.drop l.length⟩ o.dst (tupOf vs))) →
      a1.defers = [] ∧ ∃ v, (results fn a1.tmps).run c.P w1 = .ok v w1 ∧ K (a.put o.dst v) w1 := by
    rintro ⟨vs, k1, k2⟩
    obtain ⟨x, k3, k4⟩ := run_results (c := ⟨c.P, c.w0, c.out, l.map (fun i => a.tmps.getD i undef) ++ c.kx, []⟩) hf.results h2 k1
    refine ⟨h2.defers, x, k4, ?_⟩
    refine hK g1 _ _ _ k2 (Sim.put (s := ⟨s.n, l.zip s1.K, s1.H, s1.K.drop l.length⟩) (c := c) ?_ o.dst (dok_spec (s := s) hd) k3)
    refine ⟨hs.size, hs.defers, ?_, h2.nul, h2.obj, ?_, h2.inj, h2.base, h2.low, h2.below⟩
    · intro i v hv
      obtain ⟨j, h3, h4⟩ := fnd_zip _ _ i v hv
      obtain ⟨v', x', h5, h6, h7, h8⟩ := hlt' j i h3
      refine ⟨x', h7, h2.keep j v x' h4 ?_⟩
      have hj : j < l.length := (List.getElem?_eq_some_iff.1 h3).1
      simp only
      rw [List.getElem?_append_left (by simpa using hj)]
      simp [h3, Array.getD_eq_getD_getElem?, h7]
    · intro j v x h3 h4
      refine h2.keep (l.length + j) v x (by simpa using h3) ?_
      simp only
      rw [List.getElem?_append_right (by simp)]
      simpa using h4
  cases e with
  | normal => exact fin h1
  | ret => exact fin h1
  | _ => exact h1.elim
end

/-- How a call ends that worked on its caller's objects: result, objects, kept values. -/
def QP (P : Program) (rs : List ResultVar) (post : V → List (Nat × Row) → List V → Prop) : Exit → S → Prop
  | .normal, s => ∃ vs, resL P s rs vs ∧ post (tupOf vs) s.H s.K
  | .ret, s => ∃ vs, resL P s rs vs ∧ post (tupOf vs) s.H s.K
  | _, _ => False
/-- How the caller goes on. -/
def back (s : S) (l : List Nat) (d : Option Tmp) (v : V) (H : List (Nat × Row)) (K : List V) : S := S.put ⟨s.n, l.zip K, H, K.drop l.length⟩ d v
/-- A call of function f with the objects H and the kept values K. -/
def PC (P : Program) (f : FuncId) (args : List V) (H : List (Nat × Row)) (K : List V) (post : V → List (Nat × Row) → List V → Prop) : Prop :=
  ∀ (c : Cx) (s : S) (o : Oper) (fx : Operand) (xs : Array Operand) (tys : Array TypeId) (l : List Nat) (ts : List V), c.P = P → o.op = .call { callee := .value fx, args := xs, argTypes := tys } → s.ev fx = some (.fn f []) → xs.toList.map s.ev = args.map some →
    l.map (fun i => fnd s.T i) = ts.map some → s.H = H → ts ++ s.K = K → dok s o = true → Step c o s (fun s' => ∃ v H' K', post v H' K' ∧ s' = back s l o.dst v H' K')
/-- A call of a method through an interface value that holds v of type t. -/
def PM (P : Program) (t : TypeId) (v : V) (name : String) (args : List V) (H : List (Nat × Row)) (K : List V) (post : V → List (Nat × Row) → List V → Prop) : Prop :=
  ∀ (c : Cx) (s : S) (o : Oper) (rx : Operand) (xs : Array Operand) (tys : Array TypeId) (l : List Nat) (ts : List V), c.P = P → o.op = .call { callee := .invoke rx name, args := xs, argTypes := tys } → s.ev rx = some (.ifc t v) → xs.toList.map s.ev = args.map some →
    l.map (fun i => fnd s.T i) = ts.map some → s.H = H → ts ++ s.K = K → dok s o = true → Step c o s (fun s' => ∃ v H' K', post v H' K' ∧ s' = back s l o.dst v H' K')

theorem QP.toQI {P : Program} {rs : List ResultVar} {post : V → List (Nat × Row) → List V → Prop} {s : S} {l : List Nat} {d : Option Tmp} {e : Exit} {s1 : S} (h : QP P rs post e s1) : QI P rs s.n l d (fun s' => ∃ v H' K', post v H' K' ∧ s' = back s l d v H' K') e s1 := by
  cases e with
  | normal => obtain ⟨vs, h1, h2⟩ := h; exact ⟨vs, h1, _, _, _, h2, rfl⟩
  | ret => obtain ⟨vs, h1, h2⟩ := h; exact ⟨vs, h1, _, _, _, h2, rfl⟩
  | _ => exact h.elim
theorem PC.intro {P : Program} {f : FuncId} {fn : Func} {code : Code} {n : Nat} {rs : List ResultVar} {args : List V} {H : List (Nat × Row)} {K : List V} {post : V → List (Nat × Row) → List V → Prop} (hf : Is P f fn code n rs) (hn : args.length ≤ n)
    (h : ∀ w0 out kx, AW ⟨P, w0, out, kx, []⟩ code (QP P rs post) ⟨n, enum 0 args, H, K⟩) : PC P f args H K post := by
  intro c s o fx xs tys l ts hP ho hfx hargs hts hH hK hd
  subst hP hH hK
  refine st_enter l hts hf hn hd (fun g a w hs => ?_) (fun kx => (h c.w0 c.out kx).mono fun e s1 hq => hq.toQI)
  obtain ⟨cs, hfv, hcl, _⟩ := fn_eval hs hfx
  obtain rfl : cs = [] := by cases cs with | nil => rfl | cons => simp at hcl
  exact ⟨_, by rw [exec_call (caps := []) hf ho hfv, List.append_nil], args_eval hs hargs⟩
theorem exec_invoke1 {c : Cx} {o : Oper} {ρ : Operand → Value} {rx : Operand} {name : String} {xs : Array Operand} {ts : Array TypeId} {f : FuncId} {fn : Func} {code : Code} {n : Nat} {rs : List ResultVar} {t : TypeId} {v v' : Value} {w : World} (hf : Is c.P f fn code n rs) (ho : o.op = .call { callee := .invoke rx name, args := xs, argTypes := ts })
    (hfx : ρ rx = .iface t v) (hm : (method (c.P.types.size + Made.depth) t v name).run c.P w = .ok (f, v') w) : (execOp ρ o).run c.P w = .ok (.enter f (v' :: xs.toList.map ρ).toArray) w := by
  have hb : fn.body.isNone = false := by rw [hf.body]; rfl
  have hn := hf.name
  simp only [execOp, ho, resolve, hfx, Sem.run_bind, Sem.run_pure, Result.andThen_ok, invoke]
  have h0 : (#[Value.iface t v] ++ xs.map ρ)[0]? = some (.iface t v) := by simp [Array.getElem?_append_left]
  rw [h0]
  simp only [callMethod, Sem.run_bind, run_program, Result.andThen_ok, hm]
  simp only [callFunc, Sem.run_bind, run_program, Result.andThen_ok, hf.func]
  simp at hn
  have hb' : ¬ fn.body = none := by rw [hf.body]; simp
  simp [hn, hb', hb, ← Array.toList_map]
  rw [List.take_of_length_le (by simp)]
theorem ifc_eval {c : Cx} {s : S} {g : Nat → Nat × Nat} {a : Act} {w : World} (hs : Sim c g s a w) {rx : Operand} {t : TypeId} {v : V} (hx : s.ev rx = some (.ifc t v)) : ∃ x, a.eval rx = .iface t x ∧ VRep w (qt c s.H g) g v x := by
  have h := hs.ev hx
  generalize a.eval rx = u at h
  cases h with | ifc _ _ x h => exact ⟨x, rfl, h⟩
theorem reps_cons' {w : World} {q : Nat → Prop} {g : Nat → Nat × Nat} {v : V} {x : Value} {vs : List V} {xs : List Value} (h : VRep w q g v x) (hs : VReps w q g vs xs) : VReps w q g (v :: vs) (x :: xs) :=
  ⟨by simp [hs.1], fun j u y hu hy => by
    cases j with
    | zero => simp at hu hy; subst hu hy; exact h
    | succ j => exact hs.2 j u y (by simpa using hu) (by simpa using hy)⟩
/-- A method of what the pointer points to. -/
theorem PM.val {P : Program} {t : TypeId} {r k : Nat} {name : String} {f : FuncId} {fn : Func} {code : Code} {n : Nat} {rs : List ResultVar} {args : List V} {H : List (Nat × Row)} {K : List V} {post : V → List (Nat × Row) → List V → Prop} {row : Row} {v : V} (hf : Is P f fn code n rs) (hn : args.length + 1 ≤ n)
    {md : Mode} (hm : ∀ p w, (method (P.types.size + Made.depth) t (.pointer (some p)) name).run P w = (Sem.load md p (fun v => .pure (f, v))).run P w)
    (hr : fnd H r = some row) (hnl : row.nil = false) (hv : row.cells[k]? = some v)
    (h : ∀ w0 out kx, AW ⟨P, w0, out, kx, []⟩ code (QP P rs post) ⟨n, enum 0 (v :: args), H, K⟩) : PM P t (.ref r k) name args H K post := by
  intro c s o rx xs tys l ts hP ho hrx hargs hts hH hK hd
  subst hP hH hK
  refine st_enter l hts hf (by simpa using hn) hd (fun g a w hs => ?_) (fun kx => (h c.w0 c.out kx).mono fun e s1 hq => hq.toQI)
  obtain ⟨x, h1, h2⟩ := ifc_eval hs hrx
  cases h2
  obtain ⟨arr, h3, _, h4⟩ := hs.obj r row hr hnl
  obtain ⟨y, h5, h6⟩ := h4 k v hv
  have hcell : w.cell? ⟨(g r).1, k, none⟩ = some y := (cell_of_row w _ _ _ _ _ h3).trans h5
  refine ⟨_, exec_invoke1 (v' := y) hf ho h1 ?_, reps_cons' h6 (args_eval hs hargs)⟩
  rw [hm]
  simp [Sem.run, hcell]
theorem PM.mono {P : Program} {t : TypeId} {v : V} {name : String} {args : List V} {H : List (Nat × Row)} {K : List V} {post post' : V → List (Nat × Row) → List V → Prop} (h : PM P t v name args H K post) (hp : ∀ v H K, post v H K → post' v H K) : PM P t v name args H K post' :=
  fun c s o rx xs tys l ts h1 h2 h3 h4 h5 h6 h7 h8 g a w hs K' Q' hK => h c s o rx xs tys l ts h1 h2 h3 h4 h5 h6 h7 h8 g a w hs K' Q' fun g' s' a' w' ⟨u, H', K2, k1, k2⟩ k3 => hK g' s' a' w' ⟨u, H', K2, hp _ _ _ k1, k2⟩ k3

section
variable {c : Cx} {s : S} {o : Oper} {Q : Exit → S → Prop} {ops : Array Oper} {rest : List Oper}
theorem AL.pc {P : Program} {f : FuncId} {args : List V} {H : List (Nat × Row)} {K : List V} {post : V → List (Nat × Row) → List V → Prop} {fx : Operand} {xs : Array Operand} {tys : Array TypeId} (l : List Nat) {ts : List V} (h : PC P f args H K post) (hg : o.guard = none) (hP : c.P = P) (ho : o.op = .call { callee := .value fx, args := xs, argTypes := tys }) (hfx : s.ev fx = some (.fn f [])) (hargs : xs.toList.map s.ev = args.map some)
    (hts : l.map (fun i => fnd s.T i) = ts.map some) (hH : s.H = H) (hK : ts ++ s.K = K) (hd : dok s o = true) (hN : ∀ v H' K', post v H' K' → AL c ops rest Q (back s l o.dst v H' K')) : AL c ops (o :: rest) Q s :=
  AL.step hg fun g a w hs K' Q' hK' => h c s o fx xs tys l ts hP ho hfx hargs hts hH hK hd g a w hs K' Q' fun g' s' a' w' ⟨v, H', K2, h1, h2⟩ h3 => hK' g' s' a' w' (by subst h2; exact hN _ _ _ h1) h3
/-- Objects and kept values that lie below: none of them is one of the heap's. -/
structure Lw (H : List (Nat × Row)) (K : List V) : Prop where
  obj : ∀ x ∈ H, x.1 < 900 ∧ V.lowL 901 x.2.cells = true
  keep : V.lowL 901 K = true
theorem Lw.all {H : List (Nat × Row)} {K : List V} (h : Lw H K) : ∀ r, 901 ≤ r → H.all (fun x => x.1 != r && !V.hasL r x.2.cells) = true := fun r hr => by
  rw [List.all_eq_true]
  intro x hx
  obtain ⟨h1, h2⟩ := h.obj x hx
  rw [V.lowL_has hr _ h2]
  simp; omega
theorem Lw.has {H : List (Nat × Row)} {K : List V} (h : Lw H K) : ∀ r, 901 ≤ r → V.hasL r K = false := fun r hr => V.lowL_has hr _ h.keep
theorem Lw.fnd {H : List (Nat × Row)} {K : List V} (h : Lw H K) : ∀ r, 900 ≤ r → Go.Proofs.YtlgnjehfojogmaaDoor.fnd H r = none := fun r hr => by
  cases hh : Go.Proofs.YtlgnjehfojogmaaDoor.fnd H r with
  | none => rfl
  | some row => have := (h.obj _ (fnd_mem hh)).1; simp only at this; omega
/-- The objects as a call wants them: the variable, its slice, all others. -/
theorem Less.hp {s : S} {T : List (Nat × V)} {b r : Row} {H0 : List (Nat × Row)} (hT : LT s T) (h1 : fnd s.H 900 = some b) (h2 : fnd s.H 901 = some r) (h3 : ∀ k row, fnd H0 k = some row → fnd s.H k = some row) : Less ⟨s.n, T, (900, b) :: (901, r) :: H0, s.K⟩ s := by
  refine ⟨rfl, fun i v h => hT.get i v h, fun k row h => ⟨row, ?_, rfl, rfl, rfl, fun j v hv => ⟨v, hv, .refl _⟩⟩, fun j v h => ⟨v, h, .refl _⟩⟩
  simp only [fnd] at h
  split at h
  · rename_i e
    simp only [beq_iff_eq] at e
    subst e
    rw [h1]; exact h
  · split at h
    · rename_i e
      simp only [beq_iff_eq] at e
      subst e
      rw [h2]; exact h
    · exact h3 k row h
theorem LH.of {s : S} {l : List (Nat × Row)} (h : LH s l) : ∀ k row, fnd l k = some row → fnd s.H k = some row := h.get
theorem Lw.low {H : List (Nat × Row)} {K : List V} (h : Lw H K) {T : List (Nat × Row)} (hT : T.all (fun x => decide (900 ≤ x.1)) = true) : ∀ k row, Go.Proofs.YtlgnjehfojogmaaDoor.fnd H k = some row → Go.Proofs.YtlgnjehfojogmaaDoor.fnd (T ++ H) k = some row := fun k row hk => by
  have hlt : k < 900 := (h.obj _ (fnd_mem hk)).1
  induction T with
  | nil => exact hk
  | cons x T ih =>
    simp only [List.all_cons, Bool.and_eq_true, decide_eq_true_eq] at hT
    obtain ⟨i, y⟩ := x
    simp only at hT
    simp only [List.cons_append, Go.Proofs.YtlgnjehfojogmaaDoor.fnd]
    rw [if_neg (by simp; omega)]
    exact ih hT.2
end
end Go.Proofs.YtlgnjehfojogmaaDoor
namespace Go.Proofs.YtlgnjehfojogmaaDoor
open Go.RowKit
set_option linter.unusedSimpArgs false
set_option linter.unusedVariables false

theorem ba_beq (a b : ByteArray) : (a == b) = decide (a = b) := by
  cases a with | mk x =>
  cases b with | mk y =>
  show (x == y) = _
  by_cases h : x = y
  · subst h; simp
  · have h2 : ¬ (⟨x⟩ : ByteArray) = ⟨y⟩ := fun e => h (congrArg ByteArray.data e)
    simp [h, h2]
theorem findNow_str (a : ByteArray) : ∀ (l : List (ByteArray × Int)) (i j : Nat), Instr.findNow .string (.string a) ((((l.map fun x => ((Value.string x.1, Value.int .i64 x.2) : Value × Value)).zipIdx j).map fun x => ({ key := x.1.1, val := x.1.2, born := x.2 } : MapEntry))) i = some ((mfind l a i).map fun x => (x.1, .int .i64 x.2))
  | [], i, j => rfl
  | (k, v) :: l, i, j => by
    simp only [List.map_cons, List.zipIdx_cons, Instr.findNow, Instr.sameNow, mfind]
    by_cases e : a = k
    · subst e; simp [ba_beq]
    · have : (a == k) = false := by rw [ba_beq]; simpa using e
      simp only [this, if_neg e]
      exact findNow_str a l (i + 1) (j + 1)
theorem KeyOk.str {P : Program} {k : TypeId} (hu : P.underlying k = some .string) : KeyOk P k (fun a : ByteArray => .string a) := by
  refine ⟨fun b a w => ?_, fun l a w => ?_, fun a => ?_⟩
  · have : ∀ n : Nat, (Instr.checkKey b (n + 1) k (.string a)).run P w = .ok () w := fun n => by simp [Instr.checkKey, run_underlying hu]
    exact this 9999
  · have := findNow_str a l 0 0
    simp only [Instr.findKey, Sem.run_bind, run_underlying hu, Result.andThen_ok, ments, mrows, List.toList_toArray, this]
    rfl
  · have : ∀ n : Nat, Instr.sameBits n (.string a) (.string a) = true := fun n => by cases n <;> simp [Instr.sameBits, ba_beq]
    exact this 10000
section
variable {c : Cx} {s : S} {o : Oper} {g : Nat → Nat × Nat} {a : Act} {w : World} {Q : Exit → S → Prop}

section
variable {K : Type} [DecidableEq K] {enc : K → Value}
end

end
section
variable (y : Bool) (r r' : Nat) (l : List (Value × Value))
end
section
variable {c : Cx} {s : S} {o : Oper}
end
end Go.Proofs.YtlgnjehfojogmaaDoor
namespace Go.Proofs.YtlgnjehfojogmaaDoor
open Go.RowKit
set_option linter.unusedSimpArgs false
set_option linter.unusedVariables false
set_option maxRecDepth 100000

structure Nm where
  t : ByteArray
  b : Int
deriving DecidableEq
instance : Inhabited Nm := ⟨⟨⟨#[]⟩, 0⟩⟩
def chLet (b : UInt8) : Prop := (97 ≤ b.toNat ∧ b.toNat ≤ 122) ∨ b.toNat = 95
def chDig (b : UInt8) : Prop := 48 ≤ b.toNat ∧ b.toNat ≤ 57
def nmP (l : List UInt8) : Prop := 1 ≤ l.length ∧ l.length ≤ 12 ∧ ∀ (k : Nat) (b : UInt8), l[k]? = some b → chLet b ∨ (chDig b ∧ 0 < k)
open Classical in
noncomputable def nmB (l : List UInt8) : Bool := decide (nmP l)
theorem nmB_true {l : List UInt8} (h : nmP l) : nmB l = true := by simp [nmB, h]
theorem nmB_false {l : List UInt8} (h : ¬ nmP l) : nmB l = false := by simp [nmB, h]

section
variable {K : Type} [DecidableEq K]
end
end Go.Proofs.YtlgnjehfojogmaaDoor
namespace Go.Proofs.YtlgnjehfojogmaaDoor
open Go.RowKit
set_option linter.unusedSimpArgs false
set_option linter.unusedVariables false
set_option maxRecDepth 100000

structure Stp where
  k : Int
  t : Int
  a : Int
  b : Int
  n : ByteArray
deriving DecidableEq
instance : Inhabited Stp := ⟨⟨0, 0, 0, 0, ⟨#[]⟩⟩⟩
def stpD (x : Stp) : List D := [.p (.int .i64 x.k), .p (.int .i64 x.t), .p (.int .i64 x.a), .p (.int .i64 x.b), .p (.string x.n)]
def stpsD (l : List Stp) : D := .sl 5 48 (l.map stpD)
/-- The words of the kinds, and what stands behind them. -/
def wds : List ByteArray := [⟨#[108, 111, 97, 100]⟩, ⟨#[117, 110, 105, 111, 110]⟩, ⟨#[99, 111, 110, 99, 97, 116]⟩, ⟨#[115, 116, 97, 114]⟩, ⟨#[105, 110, 118, 101, 114, 116]⟩, ⟨#[114, 101, 97, 100, 115]⟩, ⟨#[119, 114, 105, 116, 101, 115]⟩, ⟨#[114, 101, 118, 101, 114, 115, 101]⟩, ⟨#[99, 111, 109, 112, 111, 115, 101]⟩, ⟨#[116, 114, 105, 109]⟩, ⟨#[115, 111, 114, 116]⟩, ⟨#[114, 101, 109, 111, 118, 101]⟩, ⟨#[99, 101, 114, 116, 97, 105, 110]⟩, ⟨#[108, 101, 97, 115, 116]⟩, ⟨#[115, 97, 118, 101]⟩]
def pts : List Nat := [0, 1, 1, 2, 2, 2, 2, 2, 1, 2, 2, 2, 2, 2, 3]
def wdK (k : Nat) : ByteArray := wds.getD (k - 1) ⟨#[]⟩
def ptK (k : Nat) : Nat := pts.getD (k - 1) 0
def arK (p : Nat) : ByteArray := match p with
  | 0 => ⟨#[116, 110]⟩
  | 1 => ⟨#[116, 97, 98]⟩
  | 2 => ⟨#[116, 97]⟩
  | _ => ⟨#[97, 110]⟩
def hasT (p : Nat) : Bool := p != 3
def hasA (p : Nat) : Bool := p != 0
def hasB (p : Nat) : Bool := p == 1
def hasN (p : Nat) : Bool := p == 0 || p == 3
def rgOk (r : Int) : Prop := 0 ≤ r ∧ r ≤ 25
instance (r : Int) : Decidable (rgOk r) := by unfold rgOk; infer_instance
/-- A blank and a register's letter. -/
def ltR (r : Int) : ByteArray := ⟨#[32]⟩ ++ ⟨#[UInt8.ofNat (97 + r.toNat)]⟩
def lnK (k : Nat) (x : Stp) : ByteArray :=
  let l := wdK k
  let l := if hasT (ptK k) then l ++ ltR x.t else l
  let l := if hasA (ptK k) then l ++ ltR x.a else l
  let l := if hasB (ptK k) then l ++ ltR x.b else l
  let l := if hasN (ptK k) then l ++ (⟨#[32]⟩ ++ x.n) else l
  l ++ ⟨#[10]⟩
def badR (p : Nat) (x : Stp) : Prop := (hasT p = true ∧ ¬ rgOk x.t) ∨ (hasA p = true ∧ ¬ rgOk x.a) ∨ (hasB p = true ∧ ¬ rgOk x.b)
def badN (p : Nat) (x : Stp) : Prop := hasN p = true ∧ nmB x.n.data.toList = false
def badF (p : Nat) (x : Stp) : Prop := (hasT p = false ∧ x.t ≠ 0) ∨ (hasA p = false ∧ x.a ≠ 0) ∨ (hasB p = false ∧ x.b ≠ 0) ∨ (hasN p = false ∧ x.n ≠ ⟨#[]⟩)
open Classical in
noncomputable def stE (x : Stp) : Int := if ¬ (1 ≤ x.k ∧ x.k ≤ 15) then 14 else if badR (ptK x.k.toNat) x then 2 else if badN (ptK x.k.toNat) x then 9 else if badF (ptK x.k.toNat) x then 3 else 0
noncomputable def stS (x : Stp) : ByteArray := if stE x = 0 then lnK x.k.toNat x else ⟨#[]⟩
theorem stE_kind {x : Stp} (h : ¬ (1 ≤ x.k ∧ x.k ≤ 15)) : stE x = 14 := by unfold stE; rw [if_pos h]
theorem stE_r {x : Stp} {k p : Nat} (hk : x.k = k) (h1 : 1 ≤ k) (h2 : k ≤ 15) (hp : ptK k = p) (h : badR p x) : stE x = 2 := by
  unfold stE
  have e : x.k.toNat = k := by omega
  rw [if_neg (by omega), e, hp, if_pos h]
theorem stE_n {x : Stp} {k p : Nat} (hk : x.k = k) (h1 : 1 ≤ k) (h2 : k ≤ 15) (hp : ptK k = p) (hr : ¬ badR p x) (h : badN p x) : stE x = 9 := by
  unfold stE
  have e : x.k.toNat = k := by omega
  rw [if_neg (by omega), e, hp, if_neg hr, if_pos h]
theorem stE_f {x : Stp} {k p : Nat} (hk : x.k = k) (h1 : 1 ≤ k) (h2 : k ≤ 15) (hp : ptK k = p) (hr : ¬ badR p x) (hn : ¬ badN p x) (h : badF p x) : stE x = 3 := by
  unfold stE
  have e : x.k.toNat = k := by omega
  rw [if_neg (by omega), e, hp, if_neg hr, if_neg hn, if_pos h]
theorem stE_ok {x : Stp} {k p : Nat} (hk : x.k = k) (h1 : 1 ≤ k) (h2 : k ≤ 15) (hp : ptK k = p) (hr : ¬ badR p x) (hn : ¬ badN p x) (h : ¬ badF p x) : stE x = 0 := by
  unfold stE
  have e : x.k.toNat = k := by omega
  rw [if_neg (by omega), e, hp, if_neg hr, if_neg hn, if_neg h]
theorem ptK_lt : ∀ k, k < 16 → ptK k < 4 := by decide
theorem wdK_size : ∀ k, k < 16 → (wdK k).size ≤ 7 := by decide
theorem wdK_pos : ∀ k, k < 16 → 1 ≤ k → 0 < (wdK k).size := by decide

def fldS (x : Stp) (c : Nat) : Int := if c = 116 then x.t else if c = 97 then x.a else x.b
def zerS (x : Stp) (c : Nat) : Stp := if c = 116 then { x with t := 0 } else if c = 97 then { x with a := 0 } else { x with b := 0 }
/-- What the program does with a step, letter by letter: what is wrong, the text, what is left of the step. -/
noncomputable def proc (x : Stp) : List UInt8 → ByteArray → Stp → Int × ByteArray × Stp
  | [], L, R => (0, L, R)
  | c :: ls, L, R => if c.toNat = 110 then (if nmB x.n.data.toList = true then proc x ls (L ++ (⟨#[32]⟩ ++ x.n)) { R with n := ⟨#[]⟩ } else (9, L, R)) else if rgOk (fldS x c.toNat) then proc x ls (L ++ ltR (fldS x c.toNat)) (zerS R c.toNat) else (2, L, R)
theorem proc_n {x : Stp} {c : UInt8} {ls : List UInt8} {L : ByteArray} {R : Stp} (hc : c.toNat = 110) (h : nmB x.n.data.toList = true) : proc x (c :: ls) L R = proc x ls (L ++ (⟨#[32]⟩ ++ x.n)) { R with n := ⟨#[]⟩ } := by
  rw [proc, if_pos hc, if_pos h]
theorem proc_nF {x : Stp} {c : UInt8} {ls : List UInt8} {L : ByteArray} {R : Stp} (hc : c.toNat = 110) (h : nmB x.n.data.toList = false) : proc x (c :: ls) L R = (9, L, R) := by
  rw [proc, if_pos hc, if_neg (by rw [h]; simp)]
theorem proc_r {x : Stp} {c : UInt8} {ls : List UInt8} {L : ByteArray} {R : Stp} (hc : c.toNat ≠ 110) (h : rgOk (fldS x c.toNat)) : proc x (c :: ls) L R = proc x ls (L ++ ltR (fldS x c.toNat)) (zerS R c.toNat) := by
  rw [proc, if_neg hc, if_pos h]
theorem proc_rF {x : Stp} {c : UInt8} {ls : List UInt8} {L : ByteArray} {R : Stp} (hc : c.toNat ≠ 110) (h : ¬ rgOk (fldS x c.toNat)) : proc x (c :: ls) L R = (2, L, R) := by
  rw [proc, if_neg hc, if_neg h]
open Classical in
/-- What the program then answers. -/
noncomputable def prR (r : Int × ByteArray × Stp) : ByteArray × Int := if r.1 = 0 then (if r.2.2 = ⟨0, 0, 0, 0, ⟨#[]⟩⟩ then (r.2.1 ++ ⟨#[10]⟩, 0) else (⟨#[]⟩, 3)) else (⟨#[]⟩, r.1)
theorem prR_err {e : Int} {L : ByteArray} {R : Stp} (h : e ≠ 0) : prR (e, L, R) = (⟨#[]⟩, e) := by unfold prR; rw [if_neg h]
theorem prR_ok {L : ByteArray} {R : Stp} (h : R = ⟨0, 0, 0, 0, ⟨#[]⟩⟩) : prR (0, L, R) = (L ++ ⟨#[10]⟩, 0) := by unfold prR; rw [if_pos rfl, if_pos h]
theorem prR_form {L : ByteArray} {R : Stp} (h : R ≠ ⟨0, 0, 0, 0, ⟨#[]⟩⟩) : prR (0, L, R) = (⟨#[]⟩, 3) := by unfold prR; rw [if_pos rfl, if_neg h]
theorem arK_let : ∀ p, p < 4 → ∀ b ∈ (arK p).data.toList, b.toNat = 110 ∨ b.toNat = 116 ∨ b.toNat = 97 ∨ b.toNat = 98 := by decide
theorem arK_len : ∀ p, p < 4 → (arK p).data.toList.length ≤ 3 := by decide
theorem ar0 : (arK 0).data.toList = [116, 110] := rfl
theorem ar1 : (arK 1).data.toList = [116, 97, 98] := rfl
theorem ar2 : (arK 2).data.toList = [116, 97] := rfl
theorem ar3 : (arK 3).data.toList = [97, 110] := rfl
set_option maxHeartbeats 2000000 in
theorem prR_spec0 (x : Stp) (k : Nat) (hk : x.k = k) (h1 : 1 ≤ k) (h2 : k ≤ 15) (hp : ptK k = 0) : prR (proc x (arK 0).data.toList (wdK k) { x with k := 0 }) = (stS x, stE x) := by
  have hkt : x.k.toNat = k := by omega
  have key : ∀ e, stE x = e → e ≠ 0 → stS x = ⟨#[]⟩ := fun e he hn => by unfold stS; rw [he, if_neg hn]
  have key0 : stE x = 0 → stS x = lnK k x := fun he => by unfold stS; rw [he, if_pos rfl, hkt]
  obtain ⟨xk, xt, xa, xb, xn⟩ := x
  simp only at hk
  rw [ar0]
  by_cases ht : rgOk xt
  rotate_left
  · have hE : stE ⟨xk, xt, xa, xb, xn⟩ = 2 := stE_r (k := k) (p := 0) hk h1 h2 hp (by simp [badR, hasT, hasA, hasB, ht])
    rw [key _ hE (by decide), hE]
    simp [proc, fldS, zerS, prR, ht]
  by_cases hn : nmB xn.data.toList = true
  rotate_left
  · have hn' : nmB xn.data.toList = false := by simpa using hn
    have hE : stE ⟨xk, xt, xa, xb, xn⟩ = 9 := stE_n (k := k) (p := 0) hk h1 h2 hp (by simp [badR, hasT, hasA, hasB, ht]) (by simp [badN, hasN, hn'])
    rw [key _ hE (by decide), hE]
    simp [proc, fldS, zerS, prR, hn', ht]
  by_cases hz : xa = 0 ∧ xb = 0
  · have hE : stE ⟨xk, xt, xa, xb, xn⟩ = 0 := stE_ok (k := k) (p := 0) hk h1 h2 hp (by simp [badR, hasT, hasA, hasB, ht, hn]) (by simp [badN, hasN, ht, hn]) (by simp [badF, hasT, hasA, hasB, hasN, hz])
    rw [key0 hE, hE]
    simp [proc, fldS, zerS, prR, ht, hn, hz, lnK, hp, hasT, hasA, hasB, hasN]
  · have hE : stE ⟨xk, xt, xa, xb, xn⟩ = 3 := stE_f (k := k) (p := 0) hk h1 h2 hp (by simp [badR, hasT, hasA, hasB, ht, hn]) (by simp [badN, hasN, ht, hn]) (Classical.byContradiction fun hb => hz (by simp [badF, hasT, hasA, hasB, hasN] at hb; simp_all))
    rw [key _ hE (by decide), hE]
    simp [proc, fldS, zerS, prR, ht, hn]
    try simpa using hz
set_option maxHeartbeats 2000000 in
theorem prR_spec1 (x : Stp) (k : Nat) (hk : x.k = k) (h1 : 1 ≤ k) (h2 : k ≤ 15) (hp : ptK k = 1) : prR (proc x (arK 1).data.toList (wdK k) { x with k := 0 }) = (stS x, stE x) := by
  have hkt : x.k.toNat = k := by omega
  have key : ∀ e, stE x = e → e ≠ 0 → stS x = ⟨#[]⟩ := fun e he hn => by unfold stS; rw [he, if_neg hn]
  have key0 : stE x = 0 → stS x = lnK k x := fun he => by unfold stS; rw [he, if_pos rfl, hkt]
  obtain ⟨xk, xt, xa, xb, xn⟩ := x
  simp only at hk
  rw [ar1]
  by_cases ht : rgOk xt
  rotate_left
  · have hE : stE ⟨xk, xt, xa, xb, xn⟩ = 2 := stE_r (k := k) (p := 1) hk h1 h2 hp (by simp [badR, hasT, hasA, hasB, ht])
    rw [key _ hE (by decide), hE]
    simp [proc, fldS, zerS, prR, ht]
  by_cases ha : rgOk xa
  rotate_left
  · have hE : stE ⟨xk, xt, xa, xb, xn⟩ = 2 := stE_r (k := k) (p := 1) hk h1 h2 hp (by simp [badR, hasT, hasA, hasB, ha])
    rw [key _ hE (by decide), hE]
    simp [proc, fldS, zerS, prR, ht, ha]
  by_cases hb : rgOk xb
  rotate_left
  · have hE : stE ⟨xk, xt, xa, xb, xn⟩ = 2 := stE_r (k := k) (p := 1) hk h1 h2 hp (by simp [badR, hasT, hasA, hasB, hb])
    rw [key _ hE (by decide), hE]
    simp [proc, fldS, zerS, prR, ht, ha, hb]
  by_cases hz : xn = ⟨#[]⟩
  · have hE : stE ⟨xk, xt, xa, xb, xn⟩ = 0 := stE_ok (k := k) (p := 1) hk h1 h2 hp (by simp [badR, hasT, hasA, hasB, ht, ha, hb]) (by simp [badN, hasN, ht, ha, hb]) (by simp [badF, hasT, hasA, hasB, hasN, hz])
    rw [key0 hE, hE]
    simp [proc, fldS, zerS, prR, ht, ha, hb, hz, lnK, hp, hasT, hasA, hasB, hasN]
  · have hE : stE ⟨xk, xt, xa, xb, xn⟩ = 3 := stE_f (k := k) (p := 1) hk h1 h2 hp (by simp [badR, hasT, hasA, hasB, ht, ha, hb]) (by simp [badN, hasN, ht, ha, hb]) (Classical.byContradiction fun hb => hz (by simp [badF, hasT, hasA, hasB, hasN] at hb; simp_all))
    rw [key _ hE (by decide), hE]
    simp [proc, fldS, zerS, prR, ht, ha, hb]
    try simpa using hz
set_option maxHeartbeats 2000000 in
theorem prR_spec2 (x : Stp) (k : Nat) (hk : x.k = k) (h1 : 1 ≤ k) (h2 : k ≤ 15) (hp : ptK k = 2) : prR (proc x (arK 2).data.toList (wdK k) { x with k := 0 }) = (stS x, stE x) := by
  have hkt : x.k.toNat = k := by omega
  have key : ∀ e, stE x = e → e ≠ 0 → stS x = ⟨#[]⟩ := fun e he hn => by unfold stS; rw [he, if_neg hn]
  have key0 : stE x = 0 → stS x = lnK k x := fun he => by unfold stS; rw [he, if_pos rfl, hkt]
  obtain ⟨xk, xt, xa, xb, xn⟩ := x
  simp only at hk
  rw [ar2]
  by_cases ht : rgOk xt
  rotate_left
  · have hE : stE ⟨xk, xt, xa, xb, xn⟩ = 2 := stE_r (k := k) (p := 2) hk h1 h2 hp (by simp [badR, hasT, hasA, hasB, ht])
    rw [key _ hE (by decide), hE]
    simp [proc, fldS, zerS, prR, ht]
  by_cases ha : rgOk xa
  rotate_left
  · have hE : stE ⟨xk, xt, xa, xb, xn⟩ = 2 := stE_r (k := k) (p := 2) hk h1 h2 hp (by simp [badR, hasT, hasA, hasB, ha])
    rw [key _ hE (by decide), hE]
    simp [proc, fldS, zerS, prR, ht, ha]
  by_cases hz : xb = 0 ∧ xn = ⟨#[]⟩
  · have hE : stE ⟨xk, xt, xa, xb, xn⟩ = 0 := stE_ok (k := k) (p := 2) hk h1 h2 hp (by simp [badR, hasT, hasA, hasB, ht, ha]) (by simp [badN, hasN, ht, ha]) (by simp [badF, hasT, hasA, hasB, hasN, hz])
    rw [key0 hE, hE]
    simp [proc, fldS, zerS, prR, ht, ha, hz, lnK, hp, hasT, hasA, hasB, hasN]
  · have hE : stE ⟨xk, xt, xa, xb, xn⟩ = 3 := stE_f (k := k) (p := 2) hk h1 h2 hp (by simp [badR, hasT, hasA, hasB, ht, ha]) (by simp [badN, hasN, ht, ha]) (Classical.byContradiction fun hb => hz (by simp [badF, hasT, hasA, hasB, hasN] at hb; simp_all))
    rw [key _ hE (by decide), hE]
    simp [proc, fldS, zerS, prR, ht, ha]
    try simpa using hz
set_option maxHeartbeats 2000000 in
theorem prR_spec3 (x : Stp) (k : Nat) (hk : x.k = k) (h1 : 1 ≤ k) (h2 : k ≤ 15) (hp : ptK k = 3) : prR (proc x (arK 3).data.toList (wdK k) { x with k := 0 }) = (stS x, stE x) := by
  have hkt : x.k.toNat = k := by omega
  have key : ∀ e, stE x = e → e ≠ 0 → stS x = ⟨#[]⟩ := fun e he hn => by unfold stS; rw [he, if_neg hn]
  have key0 : stE x = 0 → stS x = lnK k x := fun he => by unfold stS; rw [he, if_pos rfl, hkt]
  obtain ⟨xk, xt, xa, xb, xn⟩ := x
  simp only at hk
  rw [ar3]
  by_cases ha : rgOk xa
  rotate_left
  · have hE : stE ⟨xk, xt, xa, xb, xn⟩ = 2 := stE_r (k := k) (p := 3) hk h1 h2 hp (by simp [badR, hasT, hasA, hasB, ha])
    rw [key _ hE (by decide), hE]
    simp [proc, fldS, zerS, prR, ha]
  by_cases hn : nmB xn.data.toList = true
  rotate_left
  · have hn' : nmB xn.data.toList = false := by simpa using hn
    have hE : stE ⟨xk, xt, xa, xb, xn⟩ = 9 := stE_n (k := k) (p := 3) hk h1 h2 hp (by simp [badR, hasT, hasA, hasB, ha]) (by simp [badN, hasN, hn'])
    rw [key _ hE (by decide), hE]
    simp [proc, fldS, zerS, prR, hn', ha]
  by_cases hz : xt = 0 ∧ xb = 0
  · have hE : stE ⟨xk, xt, xa, xb, xn⟩ = 0 := stE_ok (k := k) (p := 3) hk h1 h2 hp (by simp [badR, hasT, hasA, hasB, ha, hn]) (by simp [badN, hasN, ha, hn]) (by simp [badF, hasT, hasA, hasB, hasN, hz])
    rw [key0 hE, hE]
    simp [proc, fldS, zerS, prR, ha, hn, hz, lnK, hp, hasT, hasA, hasB, hasN]
  · have hE : stE ⟨xk, xt, xa, xb, xn⟩ = 3 := stE_f (k := k) (p := 3) hk h1 h2 hp (by simp [badR, hasT, hasA, hasB, ha, hn]) (by simp [badN, hasN, ha, hn]) (Classical.byContradiction fun hb => hz (by simp [badF, hasT, hasA, hasB, hasN] at hb; simp_all))
    rw [key _ hE (by decide), hE]
    simp [proc, fldS, zerS, prR, ha, hn]
    try simpa using hz
theorem prR_spec (x : Stp) (k p : Nat) (hk : x.k = k) (h1 : 1 ≤ k) (h2 : k ≤ 15) (hp : ptK k = p) : prR (proc x (arK p).data.toList (wdK k) { x with k := 0 }) = (stS x, stE x) := by
  have hp4 : p < 4 := hp ▸ ptK_lt k (by omega)
  match p, hp4 with
  | 0, _ => exact prR_spec0 x k hk h1 h2 hp
  | 1, _ => exact prR_spec1 x k hk h1 h2 hp
  | 2, _ => exact prR_spec2 x k hk h1 h2 hp
  | 3, _ => exact prR_spec3 x k hk h1 h2 hp
end Go.Proofs.YtlgnjehfojogmaaDoor
namespace Go.Proofs.YtlgnjehfojogmaaDoor
open Go.RowKit
set_option linter.unusedSimpArgs false
set_option linter.unusedVariables false
set_option maxRecDepth 100000

theorem nmAl_all : ∀ n, n < 256 → (nmAl.contains (UInt8.ofNat n) = true ↔ ((97 ≤ n ∧ n ≤ 122) ∨ n = 95 ∨ (48 ≤ n ∧ n ≤ 57))) := by decide +kernel
theorem nmAl_mem (b : UInt8) : b ∈ nmAl ↔ chLet b ∨ chDig b := by
 have h := nmAl_all b.toNat b.toNat_lt
 rw [UInt8.ofNat_toNat, List.contains_iff_mem] at h
 rw [h]
 unfold chLet chDig
 omega
theorem wdN_ok {l : List UInt8} {b0 : UInt8} (h1 : 1 ≤ l.length) (h2 : l.length ≤ 12) (hb : l[0]? = some b0) (hd : ¬ chDig b0) (h : ∀ b ∈ l, b ∈ nmAl) : nmB l = true := nmB_true ⟨h1, h2, fun k b hk => by
 rcases (nmAl_mem b).1 (h b (List.mem_of_getElem? hk)) with h3 | h3
 ·exact .inl h3
 ·refine .inr ⟨h3, ?_⟩
  rcases Nat.eq_zero_or_pos k with e | e
  ·subst e
   rw [hb] at hk
   cases hk
   exact absurd h3 hd
  ·exact e⟩
theorem wdN_dig {l : List UInt8} {b0 : UInt8} (hb : l[0]? = some b0) (hd : chDig b0) : nmB l = false := nmB_false fun ⟨_, _, h⟩ => by
 rcases h 0 b0 hb with h | h
 ·unfold chLet at h; unfold chDig at hd; omega
 ·omega
theorem wdN_not {l : List UInt8} (h : ¬ ∀ b ∈ l, b ∈ nmAl) : nmB l = false := nmB_false fun ⟨_, _, hp⟩ => h fun b hb => by
 obtain ⟨k, hk⟩ := List.getElem?_of_mem hb
 rcases hp k b hk with h1 | h1
 ·exact (nmAl_mem b).2 (.inl h1)
 ·exact (nmAl_mem b).2 (.inr h1.1)
theorem dropWhile_nil {p : UInt8 → Bool} : ∀ {l : List UInt8}, l.dropWhile p = [] ↔ ∀ b ∈ l, p b = true
 | [] => by simp
 | x :: l => by
  rw [List.dropWhile_cons]
  by_cases h : p x = true
  ·rw [if_pos h, dropWhile_nil (l := l)]
   simp [h]
  ·rw [if_neg h]
   simp [h]
theorem takeWhile_all {p : UInt8 → Bool} : ∀ {l : List UInt8} {b : UInt8}, b ∈ l.takeWhile p → p b = true
 | [], b, h => by simp at h
 | x :: l, b, h => by
  rw [List.takeWhile_cons] at h
  by_cases hx : p x = true
  ·rw [if_pos hx] at h
   rcases List.mem_cons.1 h with rfl | h
   ·exact hx
   ·exact takeWhile_all h
  ·rw [if_neg hx] at h
   simp at h
theorem trimS_nil {l : List UInt8} : Lib.trimS l nmAl = [] ↔ ∀ b ∈ l, b ∈ nmAl := by
 have key : ∀ m : List UInt8, (∀ b ∈ m, nmAl.contains b = true) ↔ ∀ b ∈ m, b ∈ nmAl := fun m => by simp only [List.contains_iff_mem]
 unfold Lib.trimS Lib.trimLeftS Lib.trimRightS
 rw [dropWhile_nil, key]
 constructor
 ·intro h b hb
  have h1 := List.takeWhile_append_dropWhile (p := (nmAl.contains ·)) (l := l.reverse)
  have h2 : b ∈ l.reverse := by simpa using hb
  rw [← h1] at h2
  rcases List.mem_append.1 h2 with h3 | h3
  ·have := takeWhile_all h3
   simpa [List.contains_iff_mem] using this
  ·exact h b (by simpa using h3)
 ·intro h b hb
  rw [List.mem_reverse] at hb
  have := (List.dropWhile_sublist (nmAl.contains ·)).subset hb
  exact h b (by simpa using this)
theorem reps_s2' {a b : ByteArray} {w : World} {q : Nat → Prop} {g : Nat → Nat × Nat} {zs : List Value} (h : VReps w q g [.s a, .s b] zs) : zs = [.string a, .string b] := by
 obtain ⟨h1, h2⟩ := h
 match zs, h1, h2 with
 | [z, y], _, h2 => rw [VRep.p_eq (h2 0 _ z rfl rfl), VRep.p_eq (h2 1 _ y rfl rfl)]
theorem am_TrimN (s : ByteArray) (hs : s.size ≤ 9223372036854775807) : Fn Tryd.prog 78 [.s s, .s ⟨#[97, 98, 99, 100, 101, 102, 103, 104, 105, 106, 107, 108, 109, 110, 111, 112, 113, 114, 115, 116, 117, 118, 119, 120, 121, 122, 48, 49, 50, 51, 52, 53, 54, 55, 56, 57, 95]⟩] (fun v => v = .s ⟨(Lib.trimS s.data.toList nmAl).toArray⟩) :=
 Fn.ofCalls (fun w => trimN_call s w hs) (fun _ _ _ _ h => reps_s2' h) (fun _ _ _ => .d _ _ (.p _)) (by simp [V.pure, V.has, V.hasL])
set_option maxHeartbeats 1000000 in
theorem am_scName (s : ByteArray) : Fn Tryd.prog 51 [.s s] (fun v => v = .b (nmB s.data.toList)) := by
 obtain ⟨l, hl⟩ : ∃ l, s.data.toList = l := ⟨_, rfl⟩
 obtain ⟨n, hn⟩ : ∃ n, l.length = n := ⟨_, rfl⟩
 have hsz : s.size = n := by rw [← hn, ← hl]; exact Array.length_toList.symm
 rw [hl]
 by_cases hr1 : 1 ≤ n
 ·by_cases hr2 : n ≤ 12
  ·obtain ⟨b0, hb0⟩ : ∃ b0, l[0]? = some b0 := ⟨_, List.getElem?_eq_getElem (by omega)⟩
   have hs0 : s.data.toList[0]? = some b0 := by rw [hl]; exact hb0
   have htr := am_TrimN s (by omega)
   rw [hl] at htr
   by_cases hd0 : chDig b0
   ·have hR : nmB l = false := wdN_dig hb0 hd0
    rw [hR]
    obtain ⟨d1, d2⟩ : 48 ≤ b0.toNat ∧ b0.toNat ≤ 57 := hd0
    have d1' : ¬ b0.toNat < 48 := by omega
    have d2' : ¬ 57 < b0.toNat := by omega
    refine Fn.intro (n := 28) ⟨Tryd.func51, rfl, rfl, rfl, rfl⟩ (by simp [V.pure, V.has, V.hasL]) (by simp) fun w0 out => ?_
    refine AW.seq ?_
    refine AW.region ?_
    refine AL.rp rfl rfl (rp_assign rfl rfl) ?_
    refine AL.nil ?_
    try simp only [thenS, S.put, enum, List.nil_append, List.cons_append, List.append_nil, Nat.zero_add, Nat.reduceAdd]
    refine AW.seq ?_
    refine AW.region ?_
    refine AL.rp rfl rfl (rp_move rfl rfl) ?_
    (first | (refine AL.rp rfl rfl (rp_len_map Tryd.underlying9 rfl rfl (by assumption)) ?_) | (refine AL.rp rfl rfl (rp_len_own Tryd.underlying9 rfl rfl) ?_) | (refine AL.rp rfl rfl (rp_len_sl Tryd.underlying9 rfl rfl) ?_) | (refine AL.rp rfl rfl (rp_len_nil Tryd.underlying9 rfl rfl) ?_) | (refine AL.rp rfl rfl (rp_len_str Tryd.underlying9 rfl rfl) ?_))
    (first | (refine AL.rp rfl rfl (rp_geqT rfl rfl rfl (by first | assumption | omega | (dsimp only; omega))) ?_) | (refine AL.rp rfl rfl (rp_geqF rfl rfl rfl (by first | assumption | omega | (dsimp only; omega))) ?_) | (refine AL.rp rfl rfl (rp_geq rfl rfl rfl) ?_))
    refine AL.rp rfl rfl (rp_move rfl rfl) ?_
    (first | (refine AL.noV rfl rfl rfl rfl ?_) | (refine AL.noU rfl ⟨_, rfl, rfl⟩ rfl ?_) | (refine AL.rpy rfl rfl rfl (rp_move rfl rfl) ?_))
    (first | (refine AL.noV rfl rfl rfl rfl ?_) | (refine AL.noU rfl ⟨_, rfl, rfl⟩ rfl ?_) | (refine AL.rpy rfl rfl rfl (rp_len_map Tryd.underlying9 rfl rfl (by assumption)) ?_) | (refine AL.rpy rfl rfl rfl (rp_len_own Tryd.underlying9 rfl rfl) ?_) | (refine AL.rpy rfl rfl rfl (rp_len_sl Tryd.underlying9 rfl rfl) ?_) | (refine AL.rpy rfl rfl rfl (rp_len_nil Tryd.underlying9 rfl rfl) ?_) | (refine AL.rpy rfl rfl rfl (rp_len_str Tryd.underlying9 rfl rfl) ?_))
    (first | (refine AL.noV rfl rfl rfl rfl ?_) | (refine AL.noU rfl ⟨_, rfl, rfl⟩ rfl ?_) | (refine AL.rpy rfl rfl rfl (rp_leqT rfl rfl rfl (by first | assumption | omega | (dsimp only; omega))) ?_) | (refine AL.rpy rfl rfl rfl (rp_leqF rfl rfl rfl (by first | assumption | omega | (dsimp only; omega))) ?_) | (refine AL.rpy rfl rfl rfl (rp_leq rfl rfl rfl) ?_))
    refine AL.rp rfl rfl (rp_pick rfl rfl rfl) ?_
    refine AL.rp rfl rfl (rp_move rfl rfl) ?_
    (first | (refine AL.noV rfl rfl rfl rfl ?_) | (refine AL.noU rfl ⟨_, rfl, rfl⟩ rfl ?_) | (refine AL.rpy rfl rfl rfl (rp_move rfl rfl) ?_))
    (first | (refine AL.noV rfl rfl rfl rfl ?_) | (refine AL.noU rfl ⟨_, rfl, rfl⟩ rfl ?_) | (refine AL.rpy rfl rfl rfl (rp_index_str Tryd.underlying9 rfl rfl rfl (by first | rfl | omega) (by assumption)) ?_))
    (first | (refine AL.noV rfl rfl rfl rfl ?_) | (refine AL.noU rfl ⟨_, rfl, rfl⟩ rfl ?_) | (refine AL.rpy rfl rfl rfl (rp_lssT rfl rfl rfl (by first | assumption | omega | (dsimp only; omega))) ?_) | (refine AL.rpy rfl rfl rfl (rp_lssF rfl rfl rfl (by first | assumption | omega | (dsimp only; omega))) ?_) | (refine AL.rpy rfl rfl rfl (rp_lss rfl rfl rfl) ?_))
    (first | (refine AL.noV rfl rfl rfl rfl ?_) | (refine AL.noU rfl ⟨_, rfl, rfl⟩ rfl ?_) | (refine AL.rpy rfl rfl rfl (rp_move rfl rfl) ?_))
    (first | (refine AL.noV rfl rfl rfl rfl ?_) | (refine AL.noU rfl ⟨_, rfl, rfl⟩ rfl ?_) | (refine AL.rpy rfl rfl rfl (rp_move rfl rfl) ?_))
    (first | (refine AL.noV rfl rfl rfl rfl ?_) | (refine AL.noU rfl ⟨_, rfl, rfl⟩ rfl ?_) | (refine AL.rpy rfl rfl rfl (rp_index_str Tryd.underlying9 rfl rfl rfl (by first | rfl | omega) (by assumption)) ?_))
    (first | (refine AL.noV rfl rfl rfl rfl ?_) | (refine AL.noU rfl ⟨_, rfl, rfl⟩ rfl ?_) | (refine AL.rpy rfl rfl rfl (rp_gtrT rfl rfl rfl (by first | assumption | omega | (dsimp only; omega))) ?_) | (refine AL.rpy rfl rfl rfl (rp_gtrF rfl rfl rfl (by first | assumption | omega | (dsimp only; omega))) ?_) | (refine AL.rpy rfl rfl rfl (rp_gtr rfl rfl rfl) ?_))
    (first | (refine AL.noV rfl rfl rfl rfl ?_) | (refine AL.noU rfl ⟨_, rfl, rfl⟩ rfl ?_) | (refine AL.rpy rfl rfl rfl (rp_pick rfl rfl rfl) ?_))
    refine AL.rp rfl rfl (rp_pick rfl rfl rfl) ?_
    refine AL.rp rfl rfl (rp_assign rfl rfl) ?_
    refine AL.nil ?_
    try simp only [thenS, S.put]
    refine AW.seq ?_
    refine AW.region ?_
    refine AL.rp rfl rfl (rp_move rfl rfl) ?_
    refine AL.rp rfl rfl (rp_move rfl rfl) ?_
    (first | (refine AL.noV rfl rfl rfl rfl ?_) | (refine AL.noU rfl ⟨_, rfl, rfl⟩ rfl ?_) | (refine AL.rpy rfl rfl rfl (rp_move rfl rfl) ?_))
    (first | (refine AL.no rfl rfl rfl rfl ?_) | (refine AL.noU rfl ⟨_, rfl, rfl⟩ rfl ?_) | (refine AL.cally (post := ?pc0) rfl rfl (sm_call (args := [_, _]) ?hc0 ⟨Tryd.func78, rfl, rfl, rfl, rfl⟩ rfl rfl rfl rfl) ?_; (case hc0 => (exact htr)); rintro _ rfl -; try dsimp only))
    (first | (refine AL.noV rfl rfl rfl rfl ?_) | (refine AL.noU rfl ⟨_, rfl, rfl⟩ rfl ?_) | (refine AL.rpy rfl rfl rfl (rp_eqlsT rfl rfl rfl (by assumption)) ?_) | (refine AL.rpy rfl rfl rfl (rp_eqlsF rfl rfl rfl (by assumption)) ?_) | (refine AL.rpy rfl rfl rfl (rp_eqls rfl rfl rfl) ?_))
    refine AL.rp rfl rfl (rp_pick rfl rfl rfl) ?_
    refine AL.rp rfl rfl (rp_assign rfl rfl) ?_
    refine AL.nil ?_
    try simp only [thenS, S.put, S.newObj, setL, V.cs, List.length_cons, List.length_nil, List.take_succ_cons, List.take_zero, List.drop_succ_cons, List.drop_zero, List.drop_nil, List.nil_append, List.cons_append, List.append_nil, Nat.zero_add, Nat.reduceAdd, List.map_cons, List.map_nil, List.set_cons_zero, List.set_cons_succ]
    refine AW.ret ?_
    exact ⟨[_], ⟨rfl, trivial⟩, rfl, by simp [tupOf, V.pure, V.has, V.hasL]⟩
   ·by_cases hall : ∀ b ∈ l, b ∈ nmAl
    ·have hR : nmB l = true := wdN_ok (by omega) (by omega) hb0 hd0 hall
     rw [hR]
     rw [trimS_nil.2 hall] at htr
     have he : (⟨([] : List UInt8).toArray⟩ : ByteArray) = ⟨#[]⟩ := rfl
     rw [he] at htr
     have hee : (⟨#[]⟩ : ByteArray) = ⟨#[]⟩ := rfl
     unfold chDig at hd0
     by_cases h48 : b0.toNat < 48
     ·refine Fn.intro (n := 28) ⟨Tryd.func51, rfl, rfl, rfl, rfl⟩ (by simp [V.pure, V.has, V.hasL]) (by simp) fun w0 out => ?_
      refine AW.seq ?_
      refine AW.region ?_
      refine AL.rp rfl rfl (rp_assign rfl rfl) ?_
      refine AL.nil ?_
      try simp only [thenS, S.put, enum, List.nil_append, List.cons_append, List.append_nil, Nat.zero_add, Nat.reduceAdd]
      refine AW.seq ?_
      refine AW.region ?_
      refine AL.rp rfl rfl (rp_move rfl rfl) ?_
      (first | (refine AL.rp rfl rfl (rp_len_map Tryd.underlying9 rfl rfl (by assumption)) ?_) | (refine AL.rp rfl rfl (rp_len_own Tryd.underlying9 rfl rfl) ?_) | (refine AL.rp rfl rfl (rp_len_sl Tryd.underlying9 rfl rfl) ?_) | (refine AL.rp rfl rfl (rp_len_nil Tryd.underlying9 rfl rfl) ?_) | (refine AL.rp rfl rfl (rp_len_str Tryd.underlying9 rfl rfl) ?_))
      (first | (refine AL.rp rfl rfl (rp_geqT rfl rfl rfl (by first | assumption | omega | (dsimp only; omega))) ?_) | (refine AL.rp rfl rfl (rp_geqF rfl rfl rfl (by first | assumption | omega | (dsimp only; omega))) ?_) | (refine AL.rp rfl rfl (rp_geq rfl rfl rfl) ?_))
      refine AL.rp rfl rfl (rp_move rfl rfl) ?_
      (first | (refine AL.noV rfl rfl rfl rfl ?_) | (refine AL.noU rfl ⟨_, rfl, rfl⟩ rfl ?_) | (refine AL.rpy rfl rfl rfl (rp_move rfl rfl) ?_))
      (first | (refine AL.noV rfl rfl rfl rfl ?_) | (refine AL.noU rfl ⟨_, rfl, rfl⟩ rfl ?_) | (refine AL.rpy rfl rfl rfl (rp_len_map Tryd.underlying9 rfl rfl (by assumption)) ?_) | (refine AL.rpy rfl rfl rfl (rp_len_own Tryd.underlying9 rfl rfl) ?_) | (refine AL.rpy rfl rfl rfl (rp_len_sl Tryd.underlying9 rfl rfl) ?_) | (refine AL.rpy rfl rfl rfl (rp_len_nil Tryd.underlying9 rfl rfl) ?_) | (refine AL.rpy rfl rfl rfl (rp_len_str Tryd.underlying9 rfl rfl) ?_))
      (first | (refine AL.noV rfl rfl rfl rfl ?_) | (refine AL.noU rfl ⟨_, rfl, rfl⟩ rfl ?_) | (refine AL.rpy rfl rfl rfl (rp_leqT rfl rfl rfl (by first | assumption | omega | (dsimp only; omega))) ?_) | (refine AL.rpy rfl rfl rfl (rp_leqF rfl rfl rfl (by first | assumption | omega | (dsimp only; omega))) ?_) | (refine AL.rpy rfl rfl rfl (rp_leq rfl rfl rfl) ?_))
      refine AL.rp rfl rfl (rp_pick rfl rfl rfl) ?_
      refine AL.rp rfl rfl (rp_move rfl rfl) ?_
      (first | (refine AL.noV rfl rfl rfl rfl ?_) | (refine AL.noU rfl ⟨_, rfl, rfl⟩ rfl ?_) | (refine AL.rpy rfl rfl rfl (rp_move rfl rfl) ?_))
      (first | (refine AL.noV rfl rfl rfl rfl ?_) | (refine AL.noU rfl ⟨_, rfl, rfl⟩ rfl ?_) | (refine AL.rpy rfl rfl rfl (rp_index_str Tryd.underlying9 rfl rfl rfl (by first | rfl | omega) (by assumption)) ?_))
      (first | (refine AL.noV rfl rfl rfl rfl ?_) | (refine AL.noU rfl ⟨_, rfl, rfl⟩ rfl ?_) | (refine AL.rpy rfl rfl rfl (rp_lssT rfl rfl rfl (by first | assumption | omega | (dsimp only; omega))) ?_) | (refine AL.rpy rfl rfl rfl (rp_lssF rfl rfl rfl (by first | assumption | omega | (dsimp only; omega))) ?_) | (refine AL.rpy rfl rfl rfl (rp_lss rfl rfl rfl) ?_))
      (first | (refine AL.noV rfl rfl rfl rfl ?_) | (refine AL.noU rfl ⟨_, rfl, rfl⟩ rfl ?_) | (refine AL.rpy rfl rfl rfl (rp_move rfl rfl) ?_))
      (first | (refine AL.noV rfl rfl rfl rfl ?_) | (refine AL.noU rfl ⟨_, rfl, rfl⟩ rfl ?_) | (refine AL.rpy rfl rfl rfl (rp_move rfl rfl) ?_))
      (first | (refine AL.noV rfl rfl rfl rfl ?_) | (refine AL.noU rfl ⟨_, rfl, rfl⟩ rfl ?_) | (refine AL.rpy rfl rfl rfl (rp_index_str Tryd.underlying9 rfl rfl rfl (by first | rfl | omega) (by assumption)) ?_))
      (first | (refine AL.noV rfl rfl rfl rfl ?_) | (refine AL.noU rfl ⟨_, rfl, rfl⟩ rfl ?_) | (refine AL.rpy rfl rfl rfl (rp_gtrT rfl rfl rfl (by first | assumption | omega | (dsimp only; omega))) ?_) | (refine AL.rpy rfl rfl rfl (rp_gtrF rfl rfl rfl (by first | assumption | omega | (dsimp only; omega))) ?_) | (refine AL.rpy rfl rfl rfl (rp_gtr rfl rfl rfl) ?_))
      (first | (refine AL.noV rfl rfl rfl rfl ?_) | (refine AL.noU rfl ⟨_, rfl, rfl⟩ rfl ?_) | (refine AL.rpy rfl rfl rfl (rp_pick rfl rfl rfl) ?_))
      refine AL.rp rfl rfl (rp_pick rfl rfl rfl) ?_
      refine AL.rp rfl rfl (rp_assign rfl rfl) ?_
      refine AL.nil ?_
      try simp only [thenS, S.put]
      refine AW.seq ?_
      refine AW.region ?_
      refine AL.rp rfl rfl (rp_move rfl rfl) ?_
      refine AL.rp rfl rfl (rp_move rfl rfl) ?_
      (first | (refine AL.noV rfl rfl rfl rfl ?_) | (refine AL.noU rfl ⟨_, rfl, rfl⟩ rfl ?_) | (refine AL.rpy rfl rfl rfl (rp_move rfl rfl) ?_))
      (first | (refine AL.no rfl rfl rfl rfl ?_) | (refine AL.noU rfl ⟨_, rfl, rfl⟩ rfl ?_) | (refine AL.cally (post := ?pc1) rfl rfl (sm_call (args := [_, _]) ?hc1 ⟨Tryd.func78, rfl, rfl, rfl, rfl⟩ rfl rfl rfl rfl) ?_; (case hc1 => (exact htr)); rintro _ rfl -; try dsimp only))
      (first | (refine AL.noV rfl rfl rfl rfl ?_) | (refine AL.noU rfl ⟨_, rfl, rfl⟩ rfl ?_) | (refine AL.rpy rfl rfl rfl (rp_eqlsT rfl rfl rfl (by assumption)) ?_) | (refine AL.rpy rfl rfl rfl (rp_eqlsF rfl rfl rfl (by assumption)) ?_) | (refine AL.rpy rfl rfl rfl (rp_eqls rfl rfl rfl) ?_))
      refine AL.rp rfl rfl (rp_pick rfl rfl rfl) ?_
      refine AL.rp rfl rfl (rp_assign rfl rfl) ?_
      refine AL.nil ?_
      try simp only [thenS, S.put, S.newObj, setL, V.cs, List.length_cons, List.length_nil, List.take_succ_cons, List.take_zero, List.drop_succ_cons, List.drop_zero, List.drop_nil, List.nil_append, List.cons_append, List.append_nil, Nat.zero_add, Nat.reduceAdd, List.map_cons, List.map_nil, List.set_cons_zero, List.set_cons_succ]
      refine AW.ret ?_
      exact ⟨[_], ⟨rfl, trivial⟩, rfl, by simp [tupOf, V.pure, V.has, V.hasL]⟩
     ·have h57 : 57 < b0.toNat := by omega
      refine Fn.intro (n := 28) ⟨Tryd.func51, rfl, rfl, rfl, rfl⟩ (by simp [V.pure, V.has, V.hasL]) (by simp) fun w0 out => ?_
      refine AW.seq ?_
      refine AW.region ?_
      refine AL.rp rfl rfl (rp_assign rfl rfl) ?_
      refine AL.nil ?_
      try simp only [thenS, S.put, enum, List.nil_append, List.cons_append, List.append_nil, Nat.zero_add, Nat.reduceAdd]
      refine AW.seq ?_
      refine AW.region ?_
      refine AL.rp rfl rfl (rp_move rfl rfl) ?_
      (first | (refine AL.rp rfl rfl (rp_len_map Tryd.underlying9 rfl rfl (by assumption)) ?_) | (refine AL.rp rfl rfl (rp_len_own Tryd.underlying9 rfl rfl) ?_) | (refine AL.rp rfl rfl (rp_len_sl Tryd.underlying9 rfl rfl) ?_) | (refine AL.rp rfl rfl (rp_len_nil Tryd.underlying9 rfl rfl) ?_) | (refine AL.rp rfl rfl (rp_len_str Tryd.underlying9 rfl rfl) ?_))
      (first | (refine AL.rp rfl rfl (rp_geqT rfl rfl rfl (by first | assumption | omega | (dsimp only; omega))) ?_) | (refine AL.rp rfl rfl (rp_geqF rfl rfl rfl (by first | assumption | omega | (dsimp only; omega))) ?_) | (refine AL.rp rfl rfl (rp_geq rfl rfl rfl) ?_))
      refine AL.rp rfl rfl (rp_move rfl rfl) ?_
      (first | (refine AL.noV rfl rfl rfl rfl ?_) | (refine AL.noU rfl ⟨_, rfl, rfl⟩ rfl ?_) | (refine AL.rpy rfl rfl rfl (rp_move rfl rfl) ?_))
      (first | (refine AL.noV rfl rfl rfl rfl ?_) | (refine AL.noU rfl ⟨_, rfl, rfl⟩ rfl ?_) | (refine AL.rpy rfl rfl rfl (rp_len_map Tryd.underlying9 rfl rfl (by assumption)) ?_) | (refine AL.rpy rfl rfl rfl (rp_len_own Tryd.underlying9 rfl rfl) ?_) | (refine AL.rpy rfl rfl rfl (rp_len_sl Tryd.underlying9 rfl rfl) ?_) | (refine AL.rpy rfl rfl rfl (rp_len_nil Tryd.underlying9 rfl rfl) ?_) | (refine AL.rpy rfl rfl rfl (rp_len_str Tryd.underlying9 rfl rfl) ?_))
      (first | (refine AL.noV rfl rfl rfl rfl ?_) | (refine AL.noU rfl ⟨_, rfl, rfl⟩ rfl ?_) | (refine AL.rpy rfl rfl rfl (rp_leqT rfl rfl rfl (by first | assumption | omega | (dsimp only; omega))) ?_) | (refine AL.rpy rfl rfl rfl (rp_leqF rfl rfl rfl (by first | assumption | omega | (dsimp only; omega))) ?_) | (refine AL.rpy rfl rfl rfl (rp_leq rfl rfl rfl) ?_))
      refine AL.rp rfl rfl (rp_pick rfl rfl rfl) ?_
      refine AL.rp rfl rfl (rp_move rfl rfl) ?_
      (first | (refine AL.noV rfl rfl rfl rfl ?_) | (refine AL.noU rfl ⟨_, rfl, rfl⟩ rfl ?_) | (refine AL.rpy rfl rfl rfl (rp_move rfl rfl) ?_))
      (first | (refine AL.noV rfl rfl rfl rfl ?_) | (refine AL.noU rfl ⟨_, rfl, rfl⟩ rfl ?_) | (refine AL.rpy rfl rfl rfl (rp_index_str Tryd.underlying9 rfl rfl rfl (by first | rfl | omega) (by assumption)) ?_))
      (first | (refine AL.noV rfl rfl rfl rfl ?_) | (refine AL.noU rfl ⟨_, rfl, rfl⟩ rfl ?_) | (refine AL.rpy rfl rfl rfl (rp_lssT rfl rfl rfl (by first | assumption | omega | (dsimp only; omega))) ?_) | (refine AL.rpy rfl rfl rfl (rp_lssF rfl rfl rfl (by first | assumption | omega | (dsimp only; omega))) ?_) | (refine AL.rpy rfl rfl rfl (rp_lss rfl rfl rfl) ?_))
      (first | (refine AL.noV rfl rfl rfl rfl ?_) | (refine AL.noU rfl ⟨_, rfl, rfl⟩ rfl ?_) | (refine AL.rpy rfl rfl rfl (rp_move rfl rfl) ?_))
      (first | (refine AL.noV rfl rfl rfl rfl ?_) | (refine AL.noU rfl ⟨_, rfl, rfl⟩ rfl ?_) | (refine AL.rpy rfl rfl rfl (rp_move rfl rfl) ?_))
      (first | (refine AL.noV rfl rfl rfl rfl ?_) | (refine AL.noU rfl ⟨_, rfl, rfl⟩ rfl ?_) | (refine AL.rpy rfl rfl rfl (rp_index_str Tryd.underlying9 rfl rfl rfl (by first | rfl | omega) (by assumption)) ?_))
      (first | (refine AL.noV rfl rfl rfl rfl ?_) | (refine AL.noU rfl ⟨_, rfl, rfl⟩ rfl ?_) | (refine AL.rpy rfl rfl rfl (rp_gtrT rfl rfl rfl (by first | assumption | omega | (dsimp only; omega))) ?_) | (refine AL.rpy rfl rfl rfl (rp_gtrF rfl rfl rfl (by first | assumption | omega | (dsimp only; omega))) ?_) | (refine AL.rpy rfl rfl rfl (rp_gtr rfl rfl rfl) ?_))
      (first | (refine AL.noV rfl rfl rfl rfl ?_) | (refine AL.noU rfl ⟨_, rfl, rfl⟩ rfl ?_) | (refine AL.rpy rfl rfl rfl (rp_pick rfl rfl rfl) ?_))
      refine AL.rp rfl rfl (rp_pick rfl rfl rfl) ?_
      refine AL.rp rfl rfl (rp_assign rfl rfl) ?_
      refine AL.nil ?_
      try simp only [thenS, S.put]
      refine AW.seq ?_
      refine AW.region ?_
      refine AL.rp rfl rfl (rp_move rfl rfl) ?_
      refine AL.rp rfl rfl (rp_move rfl rfl) ?_
      (first | (refine AL.noV rfl rfl rfl rfl ?_) | (refine AL.noU rfl ⟨_, rfl, rfl⟩ rfl ?_) | (refine AL.rpy rfl rfl rfl (rp_move rfl rfl) ?_))
      (first | (refine AL.no rfl rfl rfl rfl ?_) | (refine AL.noU rfl ⟨_, rfl, rfl⟩ rfl ?_) | (refine AL.cally (post := ?pc2) rfl rfl (sm_call (args := [_, _]) ?hc2 ⟨Tryd.func78, rfl, rfl, rfl, rfl⟩ rfl rfl rfl rfl) ?_; (case hc2 => (exact htr)); rintro _ rfl -; try dsimp only))
      (first | (refine AL.noV rfl rfl rfl rfl ?_) | (refine AL.noU rfl ⟨_, rfl, rfl⟩ rfl ?_) | (refine AL.rpy rfl rfl rfl (rp_eqlsT rfl rfl rfl (by assumption)) ?_) | (refine AL.rpy rfl rfl rfl (rp_eqlsF rfl rfl rfl (by assumption)) ?_) | (refine AL.rpy rfl rfl rfl (rp_eqls rfl rfl rfl) ?_))
      refine AL.rp rfl rfl (rp_pick rfl rfl rfl) ?_
      refine AL.rp rfl rfl (rp_assign rfl rfl) ?_
      refine AL.nil ?_
      try simp only [thenS, S.put, S.newObj, setL, V.cs, List.length_cons, List.length_nil, List.take_succ_cons, List.take_zero, List.drop_succ_cons, List.drop_zero, List.drop_nil, List.nil_append, List.cons_append, List.append_nil, Nat.zero_add, Nat.reduceAdd, List.map_cons, List.map_nil, List.set_cons_zero, List.set_cons_succ]
      refine AW.ret ?_
      exact ⟨[_], ⟨rfl, trivial⟩, rfl, by simp [tupOf, V.pure, V.has, V.hasL]⟩
    ·have hR : nmB l = false := wdN_not hall
     rw [hR]
     obtain ⟨tr, htre⟩ : ∃ tr, Lib.trimS l nmAl = tr := ⟨_, rfl⟩
     have hne : tr ≠ [] := fun e => hall (trimS_nil.1 (htre.trans e))
     rw [htre] at htr
     have hne2 : (⟨tr.toArray⟩ : ByteArray).data.toList ≠ (⟨#[]⟩ : ByteArray).data.toList := by simpa using hne
     unfold chDig at hd0
     by_cases h48 : b0.toNat < 48
     ·refine Fn.intro (n := 28) ⟨Tryd.func51, rfl, rfl, rfl, rfl⟩ (by simp [V.pure, V.has, V.hasL]) (by simp) fun w0 out => ?_
      refine AW.seq ?_
      refine AW.region ?_
      refine AL.rp rfl rfl (rp_assign rfl rfl) ?_
      refine AL.nil ?_
      try simp only [thenS, S.put, enum, List.nil_append, List.cons_append, List.append_nil, Nat.zero_add, Nat.reduceAdd]
      refine AW.seq ?_
      refine AW.region ?_
      refine AL.rp rfl rfl (rp_move rfl rfl) ?_
      (first | (refine AL.rp rfl rfl (rp_len_map Tryd.underlying9 rfl rfl (by assumption)) ?_) | (refine AL.rp rfl rfl (rp_len_own Tryd.underlying9 rfl rfl) ?_) | (refine AL.rp rfl rfl (rp_len_sl Tryd.underlying9 rfl rfl) ?_) | (refine AL.rp rfl rfl (rp_len_nil Tryd.underlying9 rfl rfl) ?_) | (refine AL.rp rfl rfl (rp_len_str Tryd.underlying9 rfl rfl) ?_))
      (first | (refine AL.rp rfl rfl (rp_geqT rfl rfl rfl (by first | assumption | omega | (dsimp only; omega))) ?_) | (refine AL.rp rfl rfl (rp_geqF rfl rfl rfl (by first | assumption | omega | (dsimp only; omega))) ?_) | (refine AL.rp rfl rfl (rp_geq rfl rfl rfl) ?_))
      refine AL.rp rfl rfl (rp_move rfl rfl) ?_
      (first | (refine AL.noV rfl rfl rfl rfl ?_) | (refine AL.noU rfl ⟨_, rfl, rfl⟩ rfl ?_) | (refine AL.rpy rfl rfl rfl (rp_move rfl rfl) ?_))
      (first | (refine AL.noV rfl rfl rfl rfl ?_) | (refine AL.noU rfl ⟨_, rfl, rfl⟩ rfl ?_) | (refine AL.rpy rfl rfl rfl (rp_len_map Tryd.underlying9 rfl rfl (by assumption)) ?_) | (refine AL.rpy rfl rfl rfl (rp_len_own Tryd.underlying9 rfl rfl) ?_) | (refine AL.rpy rfl rfl rfl (rp_len_sl Tryd.underlying9 rfl rfl) ?_) | (refine AL.rpy rfl rfl rfl (rp_len_nil Tryd.underlying9 rfl rfl) ?_) | (refine AL.rpy rfl rfl rfl (rp_len_str Tryd.underlying9 rfl rfl) ?_))
      (first | (refine AL.noV rfl rfl rfl rfl ?_) | (refine AL.noU rfl ⟨_, rfl, rfl⟩ rfl ?_) | (refine AL.rpy rfl rfl rfl (rp_leqT rfl rfl rfl (by first | assumption | omega | (dsimp only; omega))) ?_) | (refine AL.rpy rfl rfl rfl (rp_leqF rfl rfl rfl (by first | assumption | omega | (dsimp only; omega))) ?_) | (refine AL.rpy rfl rfl rfl (rp_leq rfl rfl rfl) ?_))
      refine AL.rp rfl rfl (rp_pick rfl rfl rfl) ?_
      refine AL.rp rfl rfl (rp_move rfl rfl) ?_
      (first | (refine AL.noV rfl rfl rfl rfl ?_) | (refine AL.noU rfl ⟨_, rfl, rfl⟩ rfl ?_) | (refine AL.rpy rfl rfl rfl (rp_move rfl rfl) ?_))
      (first | (refine AL.noV rfl rfl rfl rfl ?_) | (refine AL.noU rfl ⟨_, rfl, rfl⟩ rfl ?_) | (refine AL.rpy rfl rfl rfl (rp_index_str Tryd.underlying9 rfl rfl rfl (by first | rfl | omega) (by assumption)) ?_))
      (first | (refine AL.noV rfl rfl rfl rfl ?_) | (refine AL.noU rfl ⟨_, rfl, rfl⟩ rfl ?_) | (refine AL.rpy rfl rfl rfl (rp_lssT rfl rfl rfl (by first | assumption | omega | (dsimp only; omega))) ?_) | (refine AL.rpy rfl rfl rfl (rp_lssF rfl rfl rfl (by first | assumption | omega | (dsimp only; omega))) ?_) | (refine AL.rpy rfl rfl rfl (rp_lss rfl rfl rfl) ?_))
      (first | (refine AL.noV rfl rfl rfl rfl ?_) | (refine AL.noU rfl ⟨_, rfl, rfl⟩ rfl ?_) | (refine AL.rpy rfl rfl rfl (rp_move rfl rfl) ?_))
      (first | (refine AL.noV rfl rfl rfl rfl ?_) | (refine AL.noU rfl ⟨_, rfl, rfl⟩ rfl ?_) | (refine AL.rpy rfl rfl rfl (rp_move rfl rfl) ?_))
      (first | (refine AL.noV rfl rfl rfl rfl ?_) | (refine AL.noU rfl ⟨_, rfl, rfl⟩ rfl ?_) | (refine AL.rpy rfl rfl rfl (rp_index_str Tryd.underlying9 rfl rfl rfl (by first | rfl | omega) (by assumption)) ?_))
      (first | (refine AL.noV rfl rfl rfl rfl ?_) | (refine AL.noU rfl ⟨_, rfl, rfl⟩ rfl ?_) | (refine AL.rpy rfl rfl rfl (rp_gtrT rfl rfl rfl (by first | assumption | omega | (dsimp only; omega))) ?_) | (refine AL.rpy rfl rfl rfl (rp_gtrF rfl rfl rfl (by first | assumption | omega | (dsimp only; omega))) ?_) | (refine AL.rpy rfl rfl rfl (rp_gtr rfl rfl rfl) ?_))
      (first | (refine AL.noV rfl rfl rfl rfl ?_) | (refine AL.noU rfl ⟨_, rfl, rfl⟩ rfl ?_) | (refine AL.rpy rfl rfl rfl (rp_pick rfl rfl rfl) ?_))
      refine AL.rp rfl rfl (rp_pick rfl rfl rfl) ?_
      refine AL.rp rfl rfl (rp_assign rfl rfl) ?_
      refine AL.nil ?_
      try simp only [thenS, S.put]
      refine AW.seq ?_
      refine AW.region ?_
      refine AL.rp rfl rfl (rp_move rfl rfl) ?_
      refine AL.rp rfl rfl (rp_move rfl rfl) ?_
      (first | (refine AL.noV rfl rfl rfl rfl ?_) | (refine AL.noU rfl ⟨_, rfl, rfl⟩ rfl ?_) | (refine AL.rpy rfl rfl rfl (rp_move rfl rfl) ?_))
      (first | (refine AL.no rfl rfl rfl rfl ?_) | (refine AL.noU rfl ⟨_, rfl, rfl⟩ rfl ?_) | (refine AL.cally (post := ?pc3) rfl rfl (sm_call (args := [_, _]) ?hc3 ⟨Tryd.func78, rfl, rfl, rfl, rfl⟩ rfl rfl rfl rfl) ?_; (case hc3 => (exact htr)); rintro _ rfl -; try dsimp only))
      (first | (refine AL.noV rfl rfl rfl rfl ?_) | (refine AL.noU rfl ⟨_, rfl, rfl⟩ rfl ?_) | (refine AL.rpy rfl rfl rfl (rp_eqlsT rfl rfl rfl (by assumption)) ?_) | (refine AL.rpy rfl rfl rfl (rp_eqlsF rfl rfl rfl (by assumption)) ?_) | (refine AL.rpy rfl rfl rfl (rp_eqls rfl rfl rfl) ?_))
      refine AL.rp rfl rfl (rp_pick rfl rfl rfl) ?_
      refine AL.rp rfl rfl (rp_assign rfl rfl) ?_
      refine AL.nil ?_
      try simp only [thenS, S.put, S.newObj, setL, V.cs, List.length_cons, List.length_nil, List.take_succ_cons, List.take_zero, List.drop_succ_cons, List.drop_zero, List.drop_nil, List.nil_append, List.cons_append, List.append_nil, Nat.zero_add, Nat.reduceAdd, List.map_cons, List.map_nil, List.set_cons_zero, List.set_cons_succ]
      refine AW.ret ?_
      exact ⟨[_], ⟨rfl, trivial⟩, rfl, by simp [tupOf, V.pure, V.has, V.hasL]⟩
     ·have h57 : 57 < b0.toNat := by omega
      refine Fn.intro (n := 28) ⟨Tryd.func51, rfl, rfl, rfl, rfl⟩ (by simp [V.pure, V.has, V.hasL]) (by simp) fun w0 out => ?_
      refine AW.seq ?_
      refine AW.region ?_
      refine AL.rp rfl rfl (rp_assign rfl rfl) ?_
      refine AL.nil ?_
      try simp only [thenS, S.put, enum, List.nil_append, List.cons_append, List.append_nil, Nat.zero_add, Nat.reduceAdd]
      refine AW.seq ?_
      refine AW.region ?_
      refine AL.rp rfl rfl (rp_move rfl rfl) ?_
      (first | (refine AL.rp rfl rfl (rp_len_map Tryd.underlying9 rfl rfl (by assumption)) ?_) | (refine AL.rp rfl rfl (rp_len_own Tryd.underlying9 rfl rfl) ?_) | (refine AL.rp rfl rfl (rp_len_sl Tryd.underlying9 rfl rfl) ?_) | (refine AL.rp rfl rfl (rp_len_nil Tryd.underlying9 rfl rfl) ?_) | (refine AL.rp rfl rfl (rp_len_str Tryd.underlying9 rfl rfl) ?_))
      (first | (refine AL.rp rfl rfl (rp_geqT rfl rfl rfl (by first | assumption | omega | (dsimp only; omega))) ?_) | (refine AL.rp rfl rfl (rp_geqF rfl rfl rfl (by first | assumption | omega | (dsimp only; omega))) ?_) | (refine AL.rp rfl rfl (rp_geq rfl rfl rfl) ?_))
      refine AL.rp rfl rfl (rp_move rfl rfl) ?_
      (first | (refine AL.noV rfl rfl rfl rfl ?_) | (refine AL.noU rfl ⟨_, rfl, rfl⟩ rfl ?_) | (refine AL.rpy rfl rfl rfl (rp_move rfl rfl) ?_))
      (first | (refine AL.noV rfl rfl rfl rfl ?_) | (refine AL.noU rfl ⟨_, rfl, rfl⟩ rfl ?_) | (refine AL.rpy rfl rfl rfl (rp_len_map Tryd.underlying9 rfl rfl (by assumption)) ?_) | (refine AL.rpy rfl rfl rfl (rp_len_own Tryd.underlying9 rfl rfl) ?_) | (refine AL.rpy rfl rfl rfl (rp_len_sl Tryd.underlying9 rfl rfl) ?_) | (refine AL.rpy rfl rfl rfl (rp_len_nil Tryd.underlying9 rfl rfl) ?_) | (refine AL.rpy rfl rfl rfl (rp_len_str Tryd.underlying9 rfl rfl) ?_))
      (first | (refine AL.noV rfl rfl rfl rfl ?_) | (refine AL.noU rfl ⟨_, rfl, rfl⟩ rfl ?_) | (refine AL.rpy rfl rfl rfl (rp_leqT rfl rfl rfl (by first | assumption | omega | (dsimp only; omega))) ?_) | (refine AL.rpy rfl rfl rfl (rp_leqF rfl rfl rfl (by first | assumption | omega | (dsimp only; omega))) ?_) | (refine AL.rpy rfl rfl rfl (rp_leq rfl rfl rfl) ?_))
      refine AL.rp rfl rfl (rp_pick rfl rfl rfl) ?_
      refine AL.rp rfl rfl (rp_move rfl rfl) ?_
      (first | (refine AL.noV rfl rfl rfl rfl ?_) | (refine AL.noU rfl ⟨_, rfl, rfl⟩ rfl ?_) | (refine AL.rpy rfl rfl rfl (rp_move rfl rfl) ?_))
      (first | (refine AL.noV rfl rfl rfl rfl ?_) | (refine AL.noU rfl ⟨_, rfl, rfl⟩ rfl ?_) | (refine AL.rpy rfl rfl rfl (rp_index_str Tryd.underlying9 rfl rfl rfl (by first | rfl | omega) (by assumption)) ?_))
      (first | (refine AL.noV rfl rfl rfl rfl ?_) | (refine AL.noU rfl ⟨_, rfl, rfl⟩ rfl ?_) | (refine AL.rpy rfl rfl rfl (rp_lssT rfl rfl rfl (by first | assumption | omega | (dsimp only; omega))) ?_) | (refine AL.rpy rfl rfl rfl (rp_lssF rfl rfl rfl (by first | assumption | omega | (dsimp only; omega))) ?_) | (refine AL.rpy rfl rfl rfl (rp_lss rfl rfl rfl) ?_))
      (first | (refine AL.noV rfl rfl rfl rfl ?_) | (refine AL.noU rfl ⟨_, rfl, rfl⟩ rfl ?_) | (refine AL.rpy rfl rfl rfl (rp_move rfl rfl) ?_))
      (first | (refine AL.noV rfl rfl rfl rfl ?_) | (refine AL.noU rfl ⟨_, rfl, rfl⟩ rfl ?_) | (refine AL.rpy rfl rfl rfl (rp_move rfl rfl) ?_))
      (first | (refine AL.noV rfl rfl rfl rfl ?_) | (refine AL.noU rfl ⟨_, rfl, rfl⟩ rfl ?_) | (refine AL.rpy rfl rfl rfl (rp_index_str Tryd.underlying9 rfl rfl rfl (by first | rfl | omega) (by assumption)) ?_))
      (first | (refine AL.noV rfl rfl rfl rfl ?_) | (refine AL.noU rfl ⟨_, rfl, rfl⟩ rfl ?_) | (refine AL.rpy rfl rfl rfl (rp_gtrT rfl rfl rfl (by first | assumption | omega | (dsimp only; omega))) ?_) | (refine AL.rpy rfl rfl rfl (rp_gtrF rfl rfl rfl (by first | assumption | omega | (dsimp only; omega))) ?_) | (refine AL.rpy rfl rfl rfl (rp_gtr rfl rfl rfl) ?_))
      (first | (refine AL.noV rfl rfl rfl rfl ?_) | (refine AL.noU rfl ⟨_, rfl, rfl⟩ rfl ?_) | (refine AL.rpy rfl rfl rfl (rp_pick rfl rfl rfl) ?_))
      refine AL.rp rfl rfl (rp_pick rfl rfl rfl) ?_
      refine AL.rp rfl rfl (rp_assign rfl rfl) ?_
      refine AL.nil ?_
      try simp only [thenS, S.put]
      refine AW.seq ?_
      refine AW.region ?_
      refine AL.rp rfl rfl (rp_move rfl rfl) ?_
      refine AL.rp rfl rfl (rp_move rfl rfl) ?_
      (first | (refine AL.noV rfl rfl rfl rfl ?_) | (refine AL.noU rfl ⟨_, rfl, rfl⟩ rfl ?_) | (refine AL.rpy rfl rfl rfl (rp_move rfl rfl) ?_))
      (first | (refine AL.no rfl rfl rfl rfl ?_) | (refine AL.noU rfl ⟨_, rfl, rfl⟩ rfl ?_) | (refine AL.cally (post := ?pc4) rfl rfl (sm_call (args := [_, _]) ?hc4 ⟨Tryd.func78, rfl, rfl, rfl, rfl⟩ rfl rfl rfl rfl) ?_; (case hc4 => (exact htr)); rintro _ rfl -; try dsimp only))
      (first | (refine AL.noV rfl rfl rfl rfl ?_) | (refine AL.noU rfl ⟨_, rfl, rfl⟩ rfl ?_) | (refine AL.rpy rfl rfl rfl (rp_eqlsT rfl rfl rfl (by assumption)) ?_) | (refine AL.rpy rfl rfl rfl (rp_eqlsF rfl rfl rfl (by assumption)) ?_) | (refine AL.rpy rfl rfl rfl (rp_eqls rfl rfl rfl) ?_))
      refine AL.rp rfl rfl (rp_pick rfl rfl rfl) ?_
      refine AL.rp rfl rfl (rp_assign rfl rfl) ?_
      refine AL.nil ?_
      try simp only [thenS, S.put, S.newObj, setL, V.cs, List.length_cons, List.length_nil, List.take_succ_cons, List.take_zero, List.drop_succ_cons, List.drop_zero, List.drop_nil, List.nil_append, List.cons_append, List.append_nil, Nat.zero_add, Nat.reduceAdd, List.map_cons, List.map_nil, List.set_cons_zero, List.set_cons_succ]
      refine AW.ret ?_
      exact ⟨[_], ⟨rfl, trivial⟩, rfl, by simp [tupOf, V.pure, V.has, V.hasL]⟩
  ·have hR : nmB l = false := nmB_false fun ⟨_, h2, _⟩ => by omega
   rw [hR]
   have hcon : Fn Tryd.prog 78 [.s s, .s ⟨#[97, 98, 99, 100, 101, 102, 103, 104, 105, 106, 107, 108, 109, 110, 111, 112, 113, 114, 115, 116, 117, 118, 119, 120, 121, 122, 48, 49, 50, 51, 52, 53, 54, 55, 56, 57, 95]⟩] (fun v => v = .s ⟨(Lib.trimS s.data.toList nmAl).toArray⟩) → True := fun _ => trivial
   refine Fn.intro (n := 28) ⟨Tryd.func51, rfl, rfl, rfl, rfl⟩ (by simp [V.pure, V.has, V.hasL]) (by simp) fun w0 out => ?_
   refine AW.seq ?_
   refine AW.region ?_
   refine AL.rp rfl rfl (rp_assign rfl rfl) ?_
   refine AL.nil ?_
   try simp only [thenS, S.put, enum, List.nil_append, List.cons_append, List.append_nil, Nat.zero_add, Nat.reduceAdd]
   refine AW.seq ?_
   refine AW.region ?_
   refine AL.rp rfl rfl (rp_move rfl rfl) ?_
   (first | (refine AL.rp rfl rfl (rp_len_map Tryd.underlying9 rfl rfl (by assumption)) ?_) | (refine AL.rp rfl rfl (rp_len_own Tryd.underlying9 rfl rfl) ?_) | (refine AL.rp rfl rfl (rp_len_sl Tryd.underlying9 rfl rfl) ?_) | (refine AL.rp rfl rfl (rp_len_nil Tryd.underlying9 rfl rfl) ?_) | (refine AL.rp rfl rfl (rp_len_str Tryd.underlying9 rfl rfl) ?_))
   (first | (refine AL.rp rfl rfl (rp_geqT rfl rfl rfl (by first | assumption | omega | (dsimp only; omega))) ?_) | (refine AL.rp rfl rfl (rp_geqF rfl rfl rfl (by first | assumption | omega | (dsimp only; omega))) ?_) | (refine AL.rp rfl rfl (rp_geq rfl rfl rfl) ?_))
   refine AL.rp rfl rfl (rp_move rfl rfl) ?_
   (first | (refine AL.noV rfl rfl rfl rfl ?_) | (refine AL.noU rfl ⟨_, rfl, rfl⟩ rfl ?_) | (refine AL.rpy rfl rfl rfl (rp_move rfl rfl) ?_))
   (first | (refine AL.noV rfl rfl rfl rfl ?_) | (refine AL.noU rfl ⟨_, rfl, rfl⟩ rfl ?_) | (refine AL.rpy rfl rfl rfl (rp_len_map Tryd.underlying9 rfl rfl (by assumption)) ?_) | (refine AL.rpy rfl rfl rfl (rp_len_own Tryd.underlying9 rfl rfl) ?_) | (refine AL.rpy rfl rfl rfl (rp_len_sl Tryd.underlying9 rfl rfl) ?_) | (refine AL.rpy rfl rfl rfl (rp_len_nil Tryd.underlying9 rfl rfl) ?_) | (refine AL.rpy rfl rfl rfl (rp_len_str Tryd.underlying9 rfl rfl) ?_))
   (first | (refine AL.noV rfl rfl rfl rfl ?_) | (refine AL.noU rfl ⟨_, rfl, rfl⟩ rfl ?_) | (refine AL.rpy rfl rfl rfl (rp_leqT rfl rfl rfl (by first | assumption | omega | (dsimp only; omega))) ?_) | (refine AL.rpy rfl rfl rfl (rp_leqF rfl rfl rfl (by first | assumption | omega | (dsimp only; omega))) ?_) | (refine AL.rpy rfl rfl rfl (rp_leq rfl rfl rfl) ?_))
   refine AL.rp rfl rfl (rp_pick rfl rfl rfl) ?_
   refine AL.rp rfl rfl (rp_move rfl rfl) ?_
   (first | (refine AL.noV rfl rfl rfl rfl ?_) | (refine AL.noU rfl ⟨_, rfl, rfl⟩ rfl ?_) | (refine AL.rpy rfl rfl rfl (rp_move rfl rfl) ?_))
   (first | (refine AL.noV rfl rfl rfl rfl ?_) | (refine AL.noU rfl ⟨_, rfl, rfl⟩ rfl ?_) | (refine AL.rpy rfl rfl rfl (rp_index_str Tryd.underlying9 rfl rfl rfl (by first | rfl | omega) (by assumption)) ?_))
   (first | (refine AL.noV rfl rfl rfl rfl ?_) | (refine AL.noU rfl ⟨_, rfl, rfl⟩ rfl ?_) | (refine AL.rpy rfl rfl rfl (rp_lssT rfl rfl rfl (by first | assumption | omega | (dsimp only; omega))) ?_) | (refine AL.rpy rfl rfl rfl (rp_lssF rfl rfl rfl (by first | assumption | omega | (dsimp only; omega))) ?_) | (refine AL.rpy rfl rfl rfl (rp_lss rfl rfl rfl) ?_))
   (first | (refine AL.noV rfl rfl rfl rfl ?_) | (refine AL.noU rfl ⟨_, rfl, rfl⟩ rfl ?_) | (refine AL.rpy rfl rfl rfl (rp_move rfl rfl) ?_))
   (first | (refine AL.noV rfl rfl rfl rfl ?_) | (refine AL.noU rfl ⟨_, rfl, rfl⟩ rfl ?_) | (refine AL.rpy rfl rfl rfl (rp_move rfl rfl) ?_))
   (first | (refine AL.noV rfl rfl rfl rfl ?_) | (refine AL.noU rfl ⟨_, rfl, rfl⟩ rfl ?_) | (refine AL.rpy rfl rfl rfl (rp_index_str Tryd.underlying9 rfl rfl rfl (by first | rfl | omega) (by assumption)) ?_))
   (first | (refine AL.noV rfl rfl rfl rfl ?_) | (refine AL.noU rfl ⟨_, rfl, rfl⟩ rfl ?_) | (refine AL.rpy rfl rfl rfl (rp_gtrT rfl rfl rfl (by first | assumption | omega | (dsimp only; omega))) ?_) | (refine AL.rpy rfl rfl rfl (rp_gtrF rfl rfl rfl (by first | assumption | omega | (dsimp only; omega))) ?_) | (refine AL.rpy rfl rfl rfl (rp_gtr rfl rfl rfl) ?_))
   (first | (refine AL.noV rfl rfl rfl rfl ?_) | (refine AL.noU rfl ⟨_, rfl, rfl⟩ rfl ?_) | (refine AL.rpy rfl rfl rfl (rp_pick rfl rfl rfl) ?_))
   refine AL.rp rfl rfl (rp_pick rfl rfl rfl) ?_
   refine AL.rp rfl rfl (rp_assign rfl rfl) ?_
   refine AL.nil ?_
   try simp only [thenS, S.put]
   refine AW.seq ?_
   refine AW.region ?_
   refine AL.rp rfl rfl (rp_move rfl rfl) ?_
   refine AL.rp rfl rfl (rp_move rfl rfl) ?_
   (first | (refine AL.noV rfl rfl rfl rfl ?_) | (refine AL.noU rfl ⟨_, rfl, rfl⟩ rfl ?_) | (refine AL.rpy rfl rfl rfl (rp_move rfl rfl) ?_))
   (first | (refine AL.no rfl rfl rfl rfl ?_) | (refine AL.noU rfl ⟨_, rfl, rfl⟩ rfl ?_) | (refine AL.cally (post := ?pc5) rfl rfl (sm_call (args := [_, _]) ?hc5 ⟨Tryd.func78, rfl, rfl, rfl, rfl⟩ rfl rfl rfl rfl) ?_; (case hc5 => (exact am_TrimN _ (by omega))); rintro _ rfl -; try dsimp only))
   (first | (refine AL.noV rfl rfl rfl rfl ?_) | (refine AL.noU rfl ⟨_, rfl, rfl⟩ rfl ?_) | (refine AL.rpy rfl rfl rfl (rp_eqlsT rfl rfl rfl (by assumption)) ?_) | (refine AL.rpy rfl rfl rfl (rp_eqlsF rfl rfl rfl (by assumption)) ?_) | (refine AL.rpy rfl rfl rfl (rp_eqls rfl rfl rfl) ?_))
   refine AL.rp rfl rfl (rp_pick rfl rfl rfl) ?_
   refine AL.rp rfl rfl (rp_assign rfl rfl) ?_
   refine AL.nil ?_
   try simp only [thenS, S.put, S.newObj, setL, V.cs, List.length_cons, List.length_nil, List.take_succ_cons, List.take_zero, List.drop_succ_cons, List.drop_zero, List.drop_nil, List.nil_append, List.cons_append, List.append_nil, Nat.zero_add, Nat.reduceAdd, List.map_cons, List.map_nil, List.set_cons_zero, List.set_cons_succ]
   refine AW.ret ?_
   exact ⟨[_], ⟨rfl, trivial⟩, rfl, by simp [tupOf, V.pure, V.has, V.hasL]⟩
 ·have hR : nmB l = false := nmB_false fun ⟨h2, _, _⟩ => by omega
  rw [hR]
  refine Fn.intro (n := 28) ⟨Tryd.func51, rfl, rfl, rfl, rfl⟩ (by simp [V.pure, V.has, V.hasL]) (by simp) fun w0 out => ?_
  refine AW.seq ?_
  refine AW.region ?_
  refine AL.rp rfl rfl (rp_assign rfl rfl) ?_
  refine AL.nil ?_
  try simp only [thenS, S.put, enum, List.nil_append, List.cons_append, List.append_nil, Nat.zero_add, Nat.reduceAdd]
  refine AW.seq ?_
  refine AW.region ?_
  refine AL.rp rfl rfl (rp_move rfl rfl) ?_
  (first | (refine AL.rp rfl rfl (rp_len_map Tryd.underlying9 rfl rfl (by assumption)) ?_) | (refine AL.rp rfl rfl (rp_len_own Tryd.underlying9 rfl rfl) ?_) | (refine AL.rp rfl rfl (rp_len_sl Tryd.underlying9 rfl rfl) ?_) | (refine AL.rp rfl rfl (rp_len_nil Tryd.underlying9 rfl rfl) ?_) | (refine AL.rp rfl rfl (rp_len_str Tryd.underlying9 rfl rfl) ?_))
  (first | (refine AL.rp rfl rfl (rp_geqT rfl rfl rfl (by first | assumption | omega | (dsimp only; omega))) ?_) | (refine AL.rp rfl rfl (rp_geqF rfl rfl rfl (by first | assumption | omega | (dsimp only; omega))) ?_) | (refine AL.rp rfl rfl (rp_geq rfl rfl rfl) ?_))
  refine AL.rp rfl rfl (rp_move rfl rfl) ?_
  (first | (refine AL.noV rfl rfl rfl rfl ?_) | (refine AL.noU rfl ⟨_, rfl, rfl⟩ rfl ?_) | (refine AL.rpy rfl rfl rfl (rp_move rfl rfl) ?_))
  (first | (refine AL.noV rfl rfl rfl rfl ?_) | (refine AL.noU rfl ⟨_, rfl, rfl⟩ rfl ?_) | (refine AL.rpy rfl rfl rfl (rp_len_map Tryd.underlying9 rfl rfl (by assumption)) ?_) | (refine AL.rpy rfl rfl rfl (rp_len_own Tryd.underlying9 rfl rfl) ?_) | (refine AL.rpy rfl rfl rfl (rp_len_sl Tryd.underlying9 rfl rfl) ?_) | (refine AL.rpy rfl rfl rfl (rp_len_nil Tryd.underlying9 rfl rfl) ?_) | (refine AL.rpy rfl rfl rfl (rp_len_str Tryd.underlying9 rfl rfl) ?_))
  (first | (refine AL.noV rfl rfl rfl rfl ?_) | (refine AL.noU rfl ⟨_, rfl, rfl⟩ rfl ?_) | (refine AL.rpy rfl rfl rfl (rp_leqT rfl rfl rfl (by first | assumption | omega | (dsimp only; omega))) ?_) | (refine AL.rpy rfl rfl rfl (rp_leqF rfl rfl rfl (by first | assumption | omega | (dsimp only; omega))) ?_) | (refine AL.rpy rfl rfl rfl (rp_leq rfl rfl rfl) ?_))
  refine AL.rp rfl rfl (rp_pick rfl rfl rfl) ?_
  refine AL.rp rfl rfl (rp_move rfl rfl) ?_
  (first | (refine AL.noV rfl rfl rfl rfl ?_) | (refine AL.noU rfl ⟨_, rfl, rfl⟩ rfl ?_) | (refine AL.rpy rfl rfl rfl (rp_move rfl rfl) ?_))
  (first | (refine AL.noV rfl rfl rfl rfl ?_) | (refine AL.noU rfl ⟨_, rfl, rfl⟩ rfl ?_) | (refine AL.rpy rfl rfl rfl (rp_index_str Tryd.underlying9 rfl rfl rfl (by first | rfl | omega) (by assumption)) ?_))
  (first | (refine AL.noV rfl rfl rfl rfl ?_) | (refine AL.noU rfl ⟨_, rfl, rfl⟩ rfl ?_) | (refine AL.rpy rfl rfl rfl (rp_lssT rfl rfl rfl (by first | assumption | omega | (dsimp only; omega))) ?_) | (refine AL.rpy rfl rfl rfl (rp_lssF rfl rfl rfl (by first | assumption | omega | (dsimp only; omega))) ?_) | (refine AL.rpy rfl rfl rfl (rp_lss rfl rfl rfl) ?_))
  (first | (refine AL.noV rfl rfl rfl rfl ?_) | (refine AL.noU rfl ⟨_, rfl, rfl⟩ rfl ?_) | (refine AL.rpy rfl rfl rfl (rp_move rfl rfl) ?_))
  (first | (refine AL.noV rfl rfl rfl rfl ?_) | (refine AL.noU rfl ⟨_, rfl, rfl⟩ rfl ?_) | (refine AL.rpy rfl rfl rfl (rp_move rfl rfl) ?_))
  (first | (refine AL.noV rfl rfl rfl rfl ?_) | (refine AL.noU rfl ⟨_, rfl, rfl⟩ rfl ?_) | (refine AL.rpy rfl rfl rfl (rp_index_str Tryd.underlying9 rfl rfl rfl (by first | rfl | omega) (by assumption)) ?_))
  (first | (refine AL.noV rfl rfl rfl rfl ?_) | (refine AL.noU rfl ⟨_, rfl, rfl⟩ rfl ?_) | (refine AL.rpy rfl rfl rfl (rp_gtrT rfl rfl rfl (by first | assumption | omega | (dsimp only; omega))) ?_) | (refine AL.rpy rfl rfl rfl (rp_gtrF rfl rfl rfl (by first | assumption | omega | (dsimp only; omega))) ?_) | (refine AL.rpy rfl rfl rfl (rp_gtr rfl rfl rfl) ?_))
  (first | (refine AL.noV rfl rfl rfl rfl ?_) | (refine AL.noU rfl ⟨_, rfl, rfl⟩ rfl ?_) | (refine AL.rpy rfl rfl rfl (rp_pick rfl rfl rfl) ?_))
  refine AL.rp rfl rfl (rp_pick rfl rfl rfl) ?_
  refine AL.rp rfl rfl (rp_assign rfl rfl) ?_
  refine AL.nil ?_
  try simp only [thenS, S.put]
  refine AW.seq ?_
  refine AW.region ?_
  refine AL.rp rfl rfl (rp_move rfl rfl) ?_
  refine AL.rp rfl rfl (rp_move rfl rfl) ?_
  (first | (refine AL.noV rfl rfl rfl rfl ?_) | (refine AL.noU rfl ⟨_, rfl, rfl⟩ rfl ?_) | (refine AL.rpy rfl rfl rfl (rp_move rfl rfl) ?_))
  (first | (refine AL.no rfl rfl rfl rfl ?_) | (refine AL.noU rfl ⟨_, rfl, rfl⟩ rfl ?_) | (refine AL.cally (post := ?pc6) rfl rfl (sm_call (args := [_, _]) ?hc6 ⟨Tryd.func78, rfl, rfl, rfl, rfl⟩ rfl rfl rfl rfl) ?_; (case hc6 => (exact am_TrimN _ (by omega))); rintro _ rfl -; try dsimp only))
  (first | (refine AL.noV rfl rfl rfl rfl ?_) | (refine AL.noU rfl ⟨_, rfl, rfl⟩ rfl ?_) | (refine AL.rpy rfl rfl rfl (rp_eqlsT rfl rfl rfl (by assumption)) ?_) | (refine AL.rpy rfl rfl rfl (rp_eqlsF rfl rfl rfl (by assumption)) ?_) | (refine AL.rpy rfl rfl rfl (rp_eqls rfl rfl rfl) ?_))
  refine AL.rp rfl rfl (rp_pick rfl rfl rfl) ?_
  refine AL.rp rfl rfl (rp_assign rfl rfl) ?_
  refine AL.nil ?_
  try simp only [thenS, S.put, S.newObj, setL, V.cs, List.length_cons, List.length_nil, List.take_succ_cons, List.take_zero, List.drop_succ_cons, List.drop_zero, List.drop_nil, List.nil_append, List.cons_append, List.append_nil, Nat.zero_add, Nat.reduceAdd, List.map_cons, List.map_nil, List.set_cons_zero, List.set_cons_succ]
  refine AW.ret ?_
  exact ⟨[_], ⟨rfl, trivial⟩, rfl, by simp [tupOf, V.pure, V.has, V.hasL]⟩
end Go.Proofs.YtlgnjehfojogmaaDoor
namespace Go.Proofs.YtlgnjehfojogmaaDoor
open Go.RowKit
set_option linter.unusedSimpArgs false
set_option linter.unusedVariables false
set_option maxRecDepth 100000

theorem pc_fieldT (r : Nat) (c : Int) (hc : c = 116) (H : List (Nat × Row)) (K : List V) : PC Tryd.prog 50 [.ref r 0, .d (.p (.int .i32 c))] H K (fun v H' K' => v = .ref r 1 ∧ H' = H ∧ K' = K) := by
 refine PC.intro (n := 19) ⟨Tryd.func50, rfl, rfl, rfl, rfl⟩ (by simp) fun w0 out kx => ?_
 simp only [enum]
 refine AW.seq ?_
 refine AW.region ?_
 refine AL.rp rfl rfl (rp_assign rfl rfl) ?_
 refine AL.nil ?_
 try simp only [thenS, S.put, enum, List.nil_append, List.cons_append, List.append_nil, Nat.zero_add, Nat.reduceAdd]
 refine AW.seq ?_
 refine AW.seq ?_
 refine AW.region ?_
 refine AL.rp rfl rfl (rp_move rfl rfl) ?_
 refine AL.nil ?_
 try simp only [thenS, S.put]
 refine AW.block ?_
 refine AW.seq ?_
 refine AW.region ?_
 (first | (refine AL.rp rfl rfl (rp_eqlT rfl rfl rfl (by first | assumption | omega | (dsimp only; omega))) ?_) | (refine AL.rp rfl rfl (rp_eqlF rfl rfl rfl (by first | assumption | omega | (dsimp only; omega))) ?_) | (refine AL.rp rfl rfl (rp_eql rfl rfl rfl) ?_))
 refine AL.rp rfl rfl (rp_assign rfl rfl) ?_
 refine AL.nil ?_
 try simp only [thenS, S.put]
 refine AW.condT rfl ?_
 refine AW.seq ?_
 refine AW.region ?_
 refine AL.rp rfl rfl (rp_move rfl rfl) ?_
 (first | (refine AL.rp rfl rfl (rp_nilCheck rfl rfl) ?_) | (refine AL.rp rfl rfl (rp_nilCheck_ad rfl rfl) ?_))
 (first | (refine AL.rp rfl rfl (rp_field_ref Tryd.underlying60 rfl rfl rfl inf3 (by decide) rfl) ?_) | (refine AL.rp rfl rfl (rp_field_ad Tryd.underlying60 rfl rfl rfl inf3 (by decide) rfl) ?_))
 refine AL.rp rfl rfl (rp_assign rfl rfl) ?_
 refine AL.nil ?_
 try simp only [thenS, S.put]
 refine AW.ret ?_
 exact ⟨[_], ⟨rfl, trivial⟩, rfl, rfl, rfl⟩
theorem pc_fieldA (r : Nat) (c : Int) (hc : c = 97) (H : List (Nat × Row)) (K : List V) : PC Tryd.prog 50 [.ref r 0, .d (.p (.int .i32 c))] H K (fun v H' K' => v = .ref r 2 ∧ H' = H ∧ K' = K) := by
 have h1 : ¬ c = 116 := by omega
 refine PC.intro (n := 19) ⟨Tryd.func50, rfl, rfl, rfl, rfl⟩ (by simp) fun w0 out kx => ?_
 simp only [enum]
 refine AW.seq ?_
 refine AW.region ?_
 refine AL.rp rfl rfl (rp_assign rfl rfl) ?_
 refine AL.nil ?_
 try simp only [thenS, S.put, enum, List.nil_append, List.cons_append, List.append_nil, Nat.zero_add, Nat.reduceAdd]
 refine AW.seq ?_
 refine AW.seq ?_
 refine AW.region ?_
 refine AL.rp rfl rfl (rp_move rfl rfl) ?_
 refine AL.nil ?_
 try simp only [thenS, S.put]
 refine AW.block ?_
 refine AW.seq ?_
 refine AW.region ?_
 (first | (refine AL.rp rfl rfl (rp_eqlT rfl rfl rfl (by first | assumption | omega | (dsimp only; omega))) ?_) | (refine AL.rp rfl rfl (rp_eqlF rfl rfl rfl (by first | assumption | omega | (dsimp only; omega))) ?_) | (refine AL.rp rfl rfl (rp_eql rfl rfl rfl) ?_))
 refine AL.rp rfl rfl (rp_assign rfl rfl) ?_
 refine AL.nil ?_
 try simp only [thenS, S.put]
 refine AW.condF rfl ?_
 refine AW.seq ?_
 refine AW.region ?_
 (first | (refine AL.rp rfl rfl (rp_eqlT rfl rfl rfl (by first | assumption | omega | (dsimp only; omega))) ?_) | (refine AL.rp rfl rfl (rp_eqlF rfl rfl rfl (by first | assumption | omega | (dsimp only; omega))) ?_) | (refine AL.rp rfl rfl (rp_eql rfl rfl rfl) ?_))
 refine AL.rp rfl rfl (rp_assign rfl rfl) ?_
 refine AL.nil ?_
 try simp only [thenS, S.put]
 refine AW.condT rfl ?_
 refine AW.seq ?_
 refine AW.region ?_
 refine AL.rp rfl rfl (rp_move rfl rfl) ?_
 (first | (refine AL.rp rfl rfl (rp_nilCheck rfl rfl) ?_) | (refine AL.rp rfl rfl (rp_nilCheck_ad rfl rfl) ?_))
 (first | (refine AL.rp rfl rfl (rp_field_ref Tryd.underlying60 rfl rfl rfl inf3 (by decide) rfl) ?_) | (refine AL.rp rfl rfl (rp_field_ad Tryd.underlying60 rfl rfl rfl inf3 (by decide) rfl) ?_))
 refine AL.rp rfl rfl (rp_assign rfl rfl) ?_
 refine AL.nil ?_
 try simp only [thenS, S.put]
 refine AW.ret ?_
 exact ⟨[_], ⟨rfl, trivial⟩, rfl, rfl, rfl⟩
theorem pc_fieldB (r : Nat) (c : Int) (hc : c = 98) (H : List (Nat × Row)) (K : List V) : PC Tryd.prog 50 [.ref r 0, .d (.p (.int .i32 c))] H K (fun v H' K' => v = .ref r 3 ∧ H' = H ∧ K' = K) := by
 have h1 : ¬ c = 116 := by omega
 have h2 : ¬ c = 97 := by omega
 refine PC.intro (n := 19) ⟨Tryd.func50, rfl, rfl, rfl, rfl⟩ (by simp) fun w0 out kx => ?_
 simp only [enum]
 refine AW.seq ?_
 refine AW.region ?_
 refine AL.rp rfl rfl (rp_assign rfl rfl) ?_
 refine AL.nil ?_
 try simp only [thenS, S.put, enum, List.nil_append, List.cons_append, List.append_nil, Nat.zero_add, Nat.reduceAdd]
 refine AW.seq ?_
 refine AW.seq ?_
 refine AW.region ?_
 refine AL.rp rfl rfl (rp_move rfl rfl) ?_
 refine AL.nil ?_
 try simp only [thenS, S.put]
 refine AW.block ?_
 refine AW.seq ?_
 refine AW.region ?_
 (first | (refine AL.rp rfl rfl (rp_eqlT rfl rfl rfl (by first | assumption | omega | (dsimp only; omega))) ?_) | (refine AL.rp rfl rfl (rp_eqlF rfl rfl rfl (by first | assumption | omega | (dsimp only; omega))) ?_) | (refine AL.rp rfl rfl (rp_eql rfl rfl rfl) ?_))
 refine AL.rp rfl rfl (rp_assign rfl rfl) ?_
 refine AL.nil ?_
 try simp only [thenS, S.put]
 refine AW.condF rfl ?_
 refine AW.seq ?_
 refine AW.region ?_
 (first | (refine AL.rp rfl rfl (rp_eqlT rfl rfl rfl (by first | assumption | omega | (dsimp only; omega))) ?_) | (refine AL.rp rfl rfl (rp_eqlF rfl rfl rfl (by first | assumption | omega | (dsimp only; omega))) ?_) | (refine AL.rp rfl rfl (rp_eql rfl rfl rfl) ?_))
 refine AL.rp rfl rfl (rp_assign rfl rfl) ?_
 refine AL.nil ?_
 try simp only [thenS, S.put]
 refine AW.condF rfl ?_
 refine AW.skip ?_
 try simp only [thenS]
 refine AW.seq ?_
 refine AW.region ?_
 refine AL.rp rfl rfl (rp_move rfl rfl) ?_
 (first | (refine AL.rp rfl rfl (rp_nilCheck rfl rfl) ?_) | (refine AL.rp rfl rfl (rp_nilCheck_ad rfl rfl) ?_))
 (first | (refine AL.rp rfl rfl (rp_field_ref Tryd.underlying60 rfl rfl rfl inf3 (by decide) rfl) ?_) | (refine AL.rp rfl rfl (rp_field_ad Tryd.underlying60 rfl rfl rfl inf3 (by decide) rfl) ?_))
 refine AL.rp rfl rfl (rp_assign rfl rfl) ?_
 refine AL.nil ?_
 try simp only [thenS, S.put]
 refine AW.ret ?_
 exact ⟨[_], ⟨rfl, trivial⟩, rfl, rfl, rfl⟩
end Go.Proofs.YtlgnjehfojogmaaDoor
namespace Go.Proofs.YtlgnjehfojogmaaDoor
open Go.RowKit
set_option linter.unusedSimpArgs false
set_option linter.unusedVariables false

/-- The iterator r now stands at pos; of other iterators and of maps nothing is said. -/
def upI (r pos : Nat) : V → V
  | .it k N s p => if k = r then .it k N s pos else .junk
  | v => if v.mps then .junk else v
section
variable {c : Cx} {s : S} {o : Oper} {g : Nat → Nat × Nat} {a : Act} {w : World} {Q : Exit → S → Prop}

theorem Sim.upIt (hs : Sim c g s a w) {r pos pos' : Nat} {str : ByteArray} (hb : w.heap[(g r).1]? = some (.stringIter str pos)) (hN : c.w0.heap.size ≤ (g r).1) (hH : ∀ k row, fnd s.H k = some row → V.mpsL row.cells = false) (hK : V.mpsL s.K = false) (hT : ∀ i N str' p', fnd s.T i = some (.it r N str' p') → str' = str) :
    Sim c g ⟨s.n, s.T.map (fun x => (x.1, upI r pos' x.2)), s.H, s.K⟩ a { w with heap := w.heap.setIfInBounds (g r).1 (.stringIter str pos') } := by
  have hlt : (g r).1 < w.heap.size := (Array.getElem?_eq_some_iff.1 hb).1
  obtain ⟨w', hw'⟩ : ∃ w', w' = { w with heap := w.heap.setIfInBounds (g r).1 (.stringIter str pos') } := ⟨_, rfl⟩
  have hsz : w'.heap.size = w.heap.size := by rw [hw']; simp
  have hoth : ∀ b, b ≠ (g r).1 → w'.heap[b]? = w.heap[b]? := fun b hne => by rw [hw']; simp [Array.getElem?_setIfInBounds_ne (Ne.symm hne)]
  have hnew : w'.heap[(g r).1]? = some (.stringIter str pos') := by rw [hw']; simp [hlt]
  have hc : ∀ (b o : Nat) (u : Value), w.cell? ⟨b, o, none⟩ = some u → w'.cell? ⟨b, o, none⟩ = some u := by
    intro b o u h
    by_cases e : b = (g r).1
    · subst e
      simp [World.cell?, hb] at h
    · exact (World.cell?_of_block (w := w) (a := ⟨b, o, none⟩) (hoth b e)).trans h
  have hm : ∀ {v x}, v.mps = false → VRep w (qt c s.H g) g v x → VRep w' (qt c s.H g) g v x := fun hv h => h.nomap (by omega) hc hv
  rw [← hw']
  refine ⟨hs.size, hs.defers, ?_, hs.nul, ?_, ?_, hs.inj, hs.base, hs.low, ?_⟩
  · intro i v hv
    simp only at hv
    rw [fnd_map] at hv
    cases hu : fnd s.T i with
    | none => rw [hu] at hv; cases hv
    | some u =>
      rw [hu] at hv
      simp only [Option.map_some, Option.some.injEq] at hv
      obtain ⟨x, h1, h2⟩ := hs.tmp i u hu
      refine ⟨x, h1, ?_⟩
      subst hv
      have hgen : ∀ u : V, VRep w (qt c s.H g) g u x → VRep w' (qt c s.H g) g (if u.mps then .junk else u) x := by
        intro u h2
        split
        · exact .junk _
        · rename_i hne; exact hm (by simpa using hne) h2
      cases u with
      | it k N s0 p0 =>
        simp only [upI]
        split
        · rename_i e
          subst e
          obtain rfl := hT i N s0 p0 hu
          cases h2 with
          | it _ _ _ _ h3 h4 => exact .it _ _ _ _ h3 hnew
        · exact .junk _
      | d _ => exact hgen _ h2
      | ad _ => exact hgen _ h2
      | ref _ _ => exact hgen _ h2
      | own _ _ _ _ => exact hgen _ h2
      | que _ _ _ _ => exact hgen _ h2
      | agg _ => exact hgen _ h2
      | tup _ => exact hgen _ h2
      | fn _ _ => exact hgen _ h2
      | mp _ _ _ => exact hgen _ h2
      | mq _ _ _ => exact hgen _ h2
      | mp2 _ _ _ _ _ _ => exact hgen _ h2
      | ifc _ _ => exact hgen _ h2
      | mit _ _ _ _ _ => exact hgen _ h2
      | mm _ _ _ => exact hgen _ h2
      | blk _ _ _ => exact hgen _ h2
      | junk => exact .junk _
  · intro k row hk hn
    obtain ⟨arr, h1, h2, h3⟩ := hs.obj k row hk hn
    refine ⟨arr, (hoth _ fun e => ?_).trans h1, h2, fun j v hv => ?_⟩
    · rw [e, hb] at h1; cases h1
    · obtain ⟨x, h4, h5⟩ := h3 j v hv
      exact ⟨x, h4, hm (V.mpsL_false.1 (hH k row hk) v (List.mem_of_getElem? hv)) h5⟩
  · intro j v x h1 h2
    exact hm (V.mpsL_false.1 hK v (List.mem_of_getElem? h1)) (hs.keep j v x h1 h2)
  · refine hs.below.trans ⟨by rw [hw'], by rw [hw'], by rw [hw'], by omega, fun k hk => hoth k ?_⟩
    omega

theorem sm_range (r : Nat) {t : TypeId} {x : Operand} {str : ByteArray} (hu : c.P.underlying t = some .string) (ho : o.op = .range t x) (hx : s.ev x = some (.s str)) (hr : s.clean r = true) (hd : dok s o = true) : StepM c o s (fun s' => s' = s.put o.dst (.it r c.w0.heap.size str 0)) := by
  intro g a w hs K Q hK
  have hb : Below w.heap.size w (w.iter str 0) := (Below.refl _ _).alloc (Nat.le_refl _) _
  have h1 := (hs.move hb).regauge hr (w.heap.size, 0)
  have hxe := VRep.p_eq (hs.ev hx)
  unfold Oper.wp
  have hexec : (execOp a.eval o).run c.P w = .ok (.value (.pointer (some ⟨w.heap.size, 0, none⟩))) (w.iter str 0) := by
    simp only [execOp, ho, hxe, Sem.run_bind, run_range_string w t str hu, Result.andThen_ok]
    rfl
  rw [hexec]
  refine hK _ _ _ _ rfl (h1.put o.dst (dok_spec hd) ?_) hb
  have := VRep.it (w := w.iter str 0) (q := qt c s.H (fun k => if k = r then (w.heap.size, 0) else g k)) (g := fun k => if k = r then (w.heap.size, 0) else g k) r c.w0.heap.size str 0 (by simp; exact hs.below.size) (by simp only [if_true]; exact World.iter_heap w str 0)
  simpa using this
theorem run_next_at {P : Program} (w : World) (b : Nat) (s : ByteArray) (pos : Nat) (ty : TypeId) (hb : w.heap[b]? = some (.stringIter s pos)) (h : pos < s.size) (ha : (s[pos]'h).toNat < 128) :
    (Instr.next (.pointer (some ⟨b, 0, none⟩)) true ty).run P w = .ok (.tuple #[.bool true, .int .i64 pos, .int .i32 (s[pos]'h).toNat]) { w with heap := w.heap.setIfInBounds b (.stringIter s (pos + 1)) } := by
  simp only [Instr.next, getObj, setObj, Sem.run_bind, Sem.run, hb, Result.andThen, h, if_true, decode_ascii s pos h ha]
  simp [goInt, Sem.run, hb]
theorem run_next_atEnd {P : Program} (w : World) (b : Nat) (s : ByteArray) (pos : Nat) (ty : TypeId) (hb : w.heap[b]? = some (.stringIter s pos)) (h : ¬ pos < s.size) :
    (Instr.next (.pointer (some ⟨b, 0, none⟩)) true ty).run P w = .ok (.tuple #[.bool false]) w := by
  simp [Instr.next, getObj, Sem.run, hb, h]
theorem it_eval (hs : Sim c g s a w) {x : Operand} {r N pos : Nat} {str : ByteArray} (hx : s.ev x = some (.it r N str pos)) : a.eval x = .pointer (some ⟨(g r).1, 0, none⟩) ∧ N ≤ (g r).1 ∧ w.heap[(g r).1]? = some (.stringIter str pos) := by
  have h := hs.ev hx
  generalize a.eval x = u at h
  cases h with
  | it _ _ _ _ h1 h2 => exact ⟨rfl, h1, h2⟩
theorem st_next {x : Operand} {r N pos : Nat} {str : ByteArray} {b : UInt8} (ho : o.op = .next x true) (hx : s.ev x = some (.it r N str pos)) (hb : str.data.toList[pos]? = some b) (ha : b.toNat < 128) (hN : N = c.w0.heap.size) (hH : s.H.all (fun x => !V.mpsL x.2.cells) = true) (hK : V.mpsL s.K = false) (hT : s.T.all (fun x => match x.2 with | .it k _ s' _ => decide (k ≠ r) || decide (s' = str) | _ => true) = true) (hd : dok s o = true) :
    Step c o s (fun s' => s' = S.put ⟨s.n, s.T.map (fun x => (x.1, upI r (pos + 1) x.2)), s.H, s.K⟩ o.dst (.tup [.b true, .i (pos : Int), .d (.p (.int .i32 (b.toNat : Int)))])) := by
  subst hN
  intro g a w hs K Q hK'
  obtain ⟨hxe, hNb, hm⟩ := it_eval hs hx
  have hlen : str.data.toList.length = str.size := Array.length_toList
  have hlt : pos < str.size := by
    have := (List.getElem?_eq_some_iff.1 hb).1
    omega
  have hbe : (str[pos]'hlt) = b := by
    obtain ⟨_, he⟩ := List.getElem?_eq_some_iff.1 hb
    rw [← he]; rfl
  have hrun := run_next_at (P := c.P) w (g r).1 str pos o.type hm hlt (by rw [hbe]; exact ha)
  rw [hbe] at hrun
  unfold Oper.wp
  have hexec : (execOp a.eval o).run c.P w = .ok (.value (.tuple #[.bool true, .int .i64 pos, .int .i32 b.toNat])) { w with heap := w.heap.setIfInBounds (g r).1 (.stringIter str (pos + 1)) } := by
    simp only [execOp, ho, hxe, Sem.run_bind, hrun, Result.andThen_ok]
    rfl
  rw [hexec]
  have hsim := hs.upIt (pos' := pos + 1) hm hNb (fun k row hk => by
    have := List.all_eq_true.1 hH _ (fnd_mem hk)
    simpa using this) hK (fun i N' s' p' hi => by
    have := List.all_eq_true.1 hT _ (fnd_mem hi)
    simpa using this)
  refine hK' g _ _ _ rfl (hsim.put o.dst (dok_spec (s := s) hd) ?_)
  exact .tup _ [.bool true, .int .i64 pos, .int .i32 b.toNat] rfl fun j u y hu hy => by
    match j, hu, hy with
    | 0, hu, hy => simp at hu hy; subst hu hy; exact .d _ _ (.p _)
    | 1, hu, hy => simp at hu hy; subst hu hy; exact .d _ _ (.p _)
    | 2, hu, hy => simp at hu hy; subst hu hy; exact .d _ _ (.p _)
    | n + 3, hu, hy => simp at hu
theorem rd_nextEnd {x : Operand} {r N pos : Nat} {str : ByteArray} (ho : o.op = .next x true) (hx : s.ev x = some (.it r N str pos)) (hp : ¬ pos < str.size) : RD c o s (.tup [.b false]) := fun g a w hs => by
  obtain ⟨hxe, hNb, hm⟩ := it_eval hs hx
  refine ⟨.tuple #[.bool false], .tup _ [.bool false] rfl fun j u y hu hy => by
    match j, hu, hy with
    | 0, hu, hy => simp at hu hy; subst hu hy; exact .d _ _ (.p _)
    | n + 1, hu, hy => simp at hu, fun w' hb => ?_⟩
  have hrun := run_next_atEnd (P := c.P) w' (g r).1 str pos o.type ((hb.block _ (Array.getElem?_eq_some_iff.1 hm).1).trans hm) hp
  simp only [execOp, ho, hxe, Sem.run_bind, hrun, Result.andThen_ok]
  rfl
end
section
variable (r pos : Nat)
theorem upI_p (x : Value) : upI r pos (.d (.p x)) = .d (.p x) := rfl
theorem upI_ref (a b : Nat) : upI r pos (.ref a b) = .ref a b := rfl
theorem upI_junk : upI r pos .junk = .junk := rfl
theorem upI_it (N : Nat) (s : ByteArray) (p : Nat) : upI r pos (.it r N s p) = .it r N s pos := by simp [upI]
end
end Go.Proofs.YtlgnjehfojogmaaDoor
namespace Go.Proofs.YtlgnjehfojogmaaDoor
open Go.RowKit
set_option linter.unusedSimpArgs false
set_option linter.unusedVariables false

section
variable {c : Cx} {s : S} {o : Oper}
theorem rp_indexG {t e : TypeId} {x y : Operand} {sz bt len g k : Nat} {z : Value} {n' : Int} {kd : IntKind} (hu : c.P.underlying t = some (.array len e)) (hi : Inf c.P e sz bt z) (ho : o.op = .indexAddr t x y) (hx : s.ev x = some (.d (.p (.pointer (some ⟨g, 0, none⟩))))) (hy : s.ev y = some (.d (.p (.int kd n')))) (hk : n' = (k : Int)) (hlt : k < len) (h2 : 2 ≤ len) : RP c o s (.d (.p (.pointer (some ⟨g, k * sz, none⟩)))) := fun g' a w hs => by
  refine ⟨.pointer (some ⟨g, k * sz, none⟩), .d _ _ (.p _), fun w' => ?_⟩
  subst hk
  have hlt' : (k : Int) < len := by omega
  have htiny : ¬ len ≤ 1 := by omega
  simp [execOp, ho, VRep.p_eq (hs.ev hx), VRep.p_eq (hs.ev hy), Instr.indexAt, Instr.sureAddr, asIntOf, run_underlying hu, run_sizeOf hi, hlt', addr_add, hlt, htiny]
theorem rd_loadsG {t : TypeId} {d : TypeDesc} {x : Operand} {sz bt b off : Nat} {z : Value} (row : List Value) (hu : c.P.underlying t = some d) (hd : isAggD d = true) (hi : Inf c.P t sz bt z) (ho : o.op = .load t x) (hx : s.ev x = some (.d (.p (.pointer (some ⟨b, off, none⟩))))) (hl : row.length = sz) (hpre : ∀ j v, row[j]? = some v → c.w0.cell? ⟨b, off + j, none⟩ = some v) : RD c o s (.agg (row.map fun v => .d (.p v))) := fun g a w hs => by
  refine ⟨.agg row.toArray, .agg _ row (by simp) fun j u y hu hy => ?_, fun w' hb => ?_⟩
  · simp only [List.getElem?_map, hy, Option.map_some, Option.some.injEq] at hu
    subst hu
    exact .d _ _ (.p _)
  · have hbel : Below c.w0.heap.size c.w0 w' := hs.below.trans (hb.mono hs.below.size)
    have hcell : ∀ j v, row[j]? = some v → w'.cell? ⟨b, off + j, none⟩ = some v := fun j v hj => (hbel.cell (p := ⟨b, off + j, none⟩) (by
      have := hpre j v hj
      unfold World.cell? at this
      rcases Nat.lt_or_ge b c.w0.heap.size with h' | h'
      · exact h'
      · rw [Array.getElem?_eq_none h'] at this
        cases this)).trans (hpre j v hj)
    have := run_loadVar_agg (w := w') hu hd hi hl hcell
    simp [execOp, ho, VRep.p_eq (hs.ev hx), Instr.loadAt, Instr.sureAddr, this]
theorem rp_conv32 {t t' : TypeId} {x : Operand} {k : IntKind} {m : Int} (hu : c.P.underlying t = some (.int k)) (hu' : c.P.underlying t' = some (.int .i32)) (ho : o.op = .convert t t' x) (hx : s.ev x = some (.d (.p (.int k m)))) (hr : 0 ≤ m ∧ m ≤ 2147483647) : RP c o s (.d (.p (.int .i32 m))) := fun g a w hs =>
  ⟨.int .i32 m, .d _ _ (.p _), fun w' => by
    have hw : IntKind.i32.wrap m = m := by rw [IntKind.wrap_i32]; omega
    simp only [execOp, ho, VRep.p_eq (hs.ev hx)]
    simp [convert, run_underlying hu, run_underlying hu', Conv.intToInt, hw]⟩
theorem encode_ascii {m : Nat} (h : m < 128) : Utf8.encode (m : Int) = ⟨#[UInt8.ofNat m]⟩ := by
  have hv : Utf8.valid (m : Int) = true := by
    unfold Utf8.valid
    simp
    left; omega
  unfold Utf8.encode
  simp only [hv, if_true, Int.toNat_natCast]
  rw [if_pos (by omega)]
theorem rp_runeStr {t t' : TypeId} {x : Operand} {m : Nat} {m' : Int} (hu : c.P.underlying t = some (.int .i32)) (hu' : c.P.underlying t' = some .string) (ho : o.op = .convert t t' x) (hx : s.ev x = some (.d (.p (.int .i32 m')))) (hm : m' = (m : Int)) (h : m < 128) : RP c o s (.s ⟨#[UInt8.ofNat m]⟩) := fun g a w hs => by
  subst hm
  refine ⟨.string ⟨#[UInt8.ofNat m]⟩, .d _ _ (.p _), fun w' => ?_⟩
  have hrun := run_convert_int_string (P := c.P) w' t t' .i32 (m : Int) (by rw [hu]; rfl) hu'
  rw [encode_ascii h] at hrun
  simp only [execOp, ho, VRep.p_eq (hs.ev hx), Sem.run_bind, hrun, Result.andThen_ok]
  rfl
end
end Go.Proofs.YtlgnjehfojogmaaDoor
namespace Go.Proofs.YtlgnjehfojogmaaDoor
open Go.RowKit
set_option linter.unusedSimpArgs false
set_option linter.unusedVariables false

/-- As Fn, in the worlds of which Pre holds. -/
def FnP (Pre : World → Prop) (P : Program) (f : FuncId) (args : List V) (post : V → Prop) : Prop := ∀ (w : World) (out : Nat → Prop) (g : Nat → Nat × Nat) (xs : List Value), Pre w → (∀ b, out b → b < w.heap.size) → VReps w (fun b => ¬ out b) g args xs →
  Calls P f xs.toArray w fun e w' => ∃ v x, e = .returned x ∧ post v ∧ v.pure ∧ VRep w' (fun b => ¬ out b) g v x ∧ Below w.heap.size w w'
def Kept (Pre : World → Prop) : Prop := ∀ w w' : World, Below w.heap.size w w' → Pre w → Pre w'
theorem FnP.ofCalls {Pre : World → Prop} {P : Program} {f : FuncId} {xs : List Value} {y : Value} {args : List V} {v : V} (h : ∀ w, Pre w → Calls P f xs.toArray w fun e w' => e = .returned y ∧ Below w.heap.size w w') (ha : ∀ w q g zs, VReps w q g args zs → zs = xs) (hv : ∀ w q g, VRep w q g v y) (hp : v.pure) : FnP Pre P f args (fun v' => v' = v) := by
  intro w out g zs hw ho hz
  obtain rfl := ha _ _ _ _ hz
  refine (h w hw).mono ?_
  rintro e w' ⟨rfl, hb⟩
  exact ⟨v, y, rfl, rfl, hp, hv _ _ _, hb⟩
theorem FnP.intro {Pre : World → Prop} {P : Program} {f : FuncId} {fn : Func} {code : Code} {n : Nat} {rs : List ResultVar} {args : List V} {post : V → Prop} (hf : Is P f fn code n rs) (hp : ∀ v ∈ args, v.pure) (hn : args.length ≤ n)
    (h : ∀ w0 out, Pre w0 → AW ⟨P, w0, out, [], []⟩ code (QF P rs post) ⟨n, enum 0 args, [], []⟩) : FnP Pre P f args post := by
  intro w out g xs hw hout hx
  refine calls_of_wp hf.func hf.body ?_
  have hs : Sim ⟨P, w, out, [], []⟩ g ⟨n, enum 0 args, [], []⟩ { tmps := xs.toArray ++ Array.replicate (fn.ntmps - xs.toArray.size) undef, defers := [] } w := by
    refine ⟨?_, rfl, ?_, by simp [fnd], by simp [fnd], by simp, by simp [fnd], by simp [fnd], hout, Below.refl _ _⟩
    · simp [hf.ntmps, ← hx.1]; omega
    · intro i v hv
      obtain ⟨_, h2⟩ := fnd_enum args 0 i v hv
      simp only [Nat.sub_zero] at h2
      have hi : i < xs.length := by rw [← hx.1]; exact (List.getElem?_eq_some_iff.1 h2).1
      refine ⟨xs[i], ?_, ?_⟩
      · rw [hf.ntmps]
        exact enter_get (List.getElem?_eq_getElem hi) (by rw [← hx.1]; exact hn)
      · refine (hx.2 i v _ h2 (List.getElem?_eq_getElem hi)).mono Cells.rfl (fun b hb _ => ⟨hb, by simp [fnd]⟩) (fun r _ => rfl)
  refine wp_mono (h w out hw g _ w hs) fun e a' w' hq => ?_
  obtain ⟨g', s', h1, h2⟩ := hq
  have fin : (∃ vs, resL P s' rs vs ∧ post (tupOf vs) ∧ (tupOf vs).pure) → a'.defers = [] ∧ ∃ v, (results fn a'.tmps).run P w' = .ok v w' ∧ ∃ v_1 x, Ending.returned v = .returned x ∧ post v_1 ∧ v_1.pure ∧ VRep w' (fun b => ¬ out b) g v_1 x ∧ Below w.heap.size w w' := by
    rintro ⟨vs, k1, k2, k3⟩
    obtain ⟨x, k4, k5⟩ := run_results (c := ⟨P, w, out, [], []⟩) hf.results h2 k1
    exact ⟨h2.defers, x, k5, _, x, rfl, k2, k3, (k4.repure k3).mono Cells.rfl (fun b hb _ => hb.1) (fun r _ => rfl), h2.below⟩
  cases e with
  | normal => exact fin h1
  | ret => exact fin h1
  | _ => exact h1.elim
section
variable {c : Cx} {s : S} {o : Oper}
theorem sm_callP {Pre : World → Prop} {fx : Operand} {xs : Array Operand} {ts : Array TypeId} {f : FuncId} {fn : Func} {code : Code} {n : Nat} {rs : List ResultVar} {args : List V} {post : V → Prop} (hk : Kept Pre) (h0 : Pre c.w0) (hfn : FnP Pre c.P f args post) (hf : Is c.P f fn code n rs) (ho : o.op = .call { callee := .value fx, args := xs, argTypes := ts })
    (hfx : s.ev fx = some (.fn f [])) (hargs : xs.toList.map s.ev = args.map some) (hd : dok s o = true) : StepM c o s (fun s' => ∃ v, post v ∧ v.pure ∧ s' = s.put o.dst v) := by
  intro g a w hs K Q hK
  have hfx' : a.eval fx = .func (.func f) #[] ([] : List Value).toArray := by
    have h := hs.ev hfx
    generalize a.eval fx = u at h
    cases h with
    | fn _ _ cs hl _ =>
      obtain rfl : cs = [] := by cases cs with | nil => rfl | cons => simp at hl
      rfl
  have hx : VReps w (fun b => ¬ ¬ qt c s.H g b) g args (xs.toList.map a.eval) := by
    refine ⟨by simpa using (congrArg List.length hargs).symm, fun j u y hu hy => ?_⟩
    have h1 := congrArg (fun l => l[j]?) hargs
    simp only [List.getElem?_map, hu, Option.map_some] at h1 hy
    cases h2 : xs.toList[j]? with
    | none => rw [h2] at h1; cases h1
    | some p =>
      rw [h2] at h1 hy
      simp only [Option.map_some, Option.some.injEq] at h1 hy
      subst hy
      exact (hs.ev h1).mono Cells.rfl (fun b hb _ => not_not_intro hb) (fun r _ => rfl)
  unfold Oper.wp
  rw [exec_call (caps := []) hf ho hfx']
  simp only [Oper.upon, List.append_nil]
  refine (hfn w (fun b => ¬ qt c s.H g b) g _ (hk _ _ hs.below h0) ?_ hx).mono ?_
  · intro b hb
    rcases Classical.em (c.out b) with h | h
    · exact Nat.lt_of_lt_of_le (hs.low b h) hs.below.size
    · rcases Classical.em (∃ r row, fnd s.H r = some row ∧ row.nil = false ∧ (g r).1 = b) with ⟨r, row, h1, h2, rfl⟩ | h'
      · obtain ⟨arr, h3, _⟩ := hs.obj r row h1 h2
        exact (Array.getElem?_eq_some_iff.1 h3).1
      · exact absurd ⟨h, fun r row h1 h2 h3 => h' ⟨r, row, h1, h2, h3⟩⟩ hb
  · rintro e w' ⟨v, x, rfl, h1, h2, h3, h4⟩
    refine hK g _ _ _ ⟨v, h1, h2, rfl⟩ ((hs.move h4).put o.dst (dok_spec hd) ?_) h4
    exact h3.mono Cells.rfl (fun b hb _ => Classical.not_not.1 hb) (fun r _ => rfl)
end
end Go.Proofs.YtlgnjehfojogmaaDoor
