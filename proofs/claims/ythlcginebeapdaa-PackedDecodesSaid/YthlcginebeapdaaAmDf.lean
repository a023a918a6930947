/- Calls that end in a panic; functions with a deferred closure that catches it. -/
import Derived.Test.YthlcginebeapdaaAmTree
import Derived.Test.YthlcginebeapdaaAmHp
import Derived.Test.YthlcginebeapdaaPnc
namespace Go.Proofs.Ythlcginebeapdaa
open Go.RowKit
set_option linter.unusedSimpArgs false
set_option linter.unusedVariables false

section
variable {c : Cx} {s : S} {o : Oper} {Q : Exit → S → Prop}
/-- A call of which nothing returns: it panics. -/
def WX (c : Cx) (o : Oper) (s : S) (Q : Exit → S → Prop) : Prop := ∀ g a w, Sim c g s a w → ∀ K' : Act → World → Prop, o.wp c.P a w K' (QQ c Q)
theorem wx_enter (l : List Nat) {ts : List V} {f : FuncId} {fn : Func} {code : Code} {n : Nat} {rs : List ResultVar} {ars : List V} {ch : List PanicEntry} (hts : l.map (fun i => fnd s.T i) = ts.map some) (hf : Is c.P f fn code n rs) (hn : ars.length ≤ n)
    (hex : ∀ g a w, Sim c g s a w → ∃ xs : List Value, (execOp a.eval o).run c.P w = .ok (.enter f xs.toArray) w ∧ VReps w (qt c s.H g) g ars xs)
    (h : ∀ kx, AW ⟨c.P, c.w0, c.out, kx, []⟩ code (fun e s1 => e = .panic ch ∧ Q (.panic ch) ⟨s.n, l.zip s1.K, s1.H, s1.K.drop l.length⟩) ⟨n, enum 0 ars, s.H, ts ++ s.K⟩) : WX c o s Q := by
  intro g a w hs K'
  obtain ⟨xs, hrun, harl, harg⟩ := hex g a w hs
  have hll : l.length = ts.length := by simpa using congrArg List.length hts
  have hlt : ∀ (j i : Nat) (v : V), l[j]? = some i → ts[j]? = some v → fnd s.T i = some v := by
    intro j i v h1 h2
    have h3 := congrArg (fun l => l[j]?) hts
    simp only [List.getElem?_map, h1, h2, Option.map_some, Option.some.injEq] at h3
    exact h3
  have hlt' : ∀ (j i : Nat), l[j]? = some i → ∃ v x, ts[j]? = some v ∧ fnd s.T i = some v ∧ a.tmps[i]? = some x ∧ VRep w (qt c s.H g) g v x := by
    intro j i h1
    have hj : j < ts.length := by rw [← hll]; exact (List.getElem?_eq_some_iff.1 h1).1
    have h2 := hlt j i ts[j] h1 (List.getElem?_eq_getElem hj)
    obtain ⟨x, h3, h4⟩ := hs.tmp i _ h2
    exact ⟨_, x, List.getElem?_eq_getElem hj, h2, h3, h4⟩
  have hsim : Sim ⟨c.P, c.w0, c.out, l.map (fun i => a.tmps.getD i undef) ++ c.kx, []⟩ g ⟨n, enum 0 ars, s.H, ts ++ s.K⟩ { tmps := xs.toArray ++ Array.replicate (fn.ntmps - xs.toArray.size) undef, defers := [] } w := by
    refine ⟨?_, rfl, ?_, hs.nul, hs.obj, ?_, hs.inj, hs.base, hs.low, hs.below⟩
    · simp [hf.ntmps]; omega
    · intro i v hv
      obtain ⟨_, h2⟩ := fnd_enum _ 0 i v hv
      simp only [Nat.sub_zero] at h2
      have hi : i < xs.length := by
        have := (List.getElem?_eq_some_iff.1 h2).1
        omega
      refine ⟨xs[i], ?_, ?_⟩
      · rw [hf.ntmps]
        exact enter_get (List.getElem?_eq_getElem hi) (by omega)
      · exact harg i v _ h2 (List.getElem?_eq_getElem hi)
    · intro j v x h1 h2
      by_cases hj : j < ts.length
      · rw [List.getElem?_append_left hj] at h1
        rw [List.getElem?_append_left (by simp; omega)] at h2
        simp only [List.getElem?_map] at h2
        cases h3 : l[j]? with
        | none => rw [h3] at h2; cases h2
        | some i =>
          rw [h3] at h2
          simp only [Option.map_some, Option.some.injEq] at h2
          obtain ⟨v', x', h4, h5, h6, h7⟩ := hlt' j i h3
          rw [h4] at h1
          simp only [Option.some.injEq] at h1
          subst h1
          have : x = x' := by rw [← h2]; simp [Array.getD_eq_getD_getElem?, h6]
          subst this
          exact h7
      · rw [List.getElem?_append_right (by omega)] at h1
        rw [List.getElem?_append_right (by simp; omega)] at h2
        refine hs.keep (j - ts.length) v x h1 ?_
        simpa [hll] using h2
  unfold Oper.wp
  rw [hrun]
  simp only [Oper.upon]
  refine calls_of_wp hf.func hf.body (wp_mono (h (l.map (fun i => a.tmps.getD i undef) ++ c.kx) g _ w hsim) fun e a1 w1 hq => ?_)
  obtain ⟨g1, s1, ⟨rfl, h1⟩, h2⟩ := hq
  refine ⟨h2.defers, g1, _, h1, ?_⟩
  refine ⟨hs.size, hs.defers, ?_, h2.nul, h2.obj, ?_, h2.inj, h2.base, h2.low, h2.below⟩
  · intro i v hv
    obtain ⟨j, h3, h4⟩ := fnd_zip _ _ i v hv
    obtain ⟨v', x', h5, h6, h7, h8⟩ := hlt' j i h3
    refine ⟨x', h7, h2.keep j v x' h4 ?_⟩
    have hj : j < l.length := (List.getElem?_eq_some_iff.1 h3).1
    simp only
    rw [List.getElem?_append_left (by simpa using hj)]
    simp [h3, Array.getD_eq_getD_getElem?, h7]
  · intro j v x h3 h4
    refine h2.keep (l.length + j) v x (by simpa using h3) ?_
    simp only
    rw [List.getElem?_append_right (by simp)]
    simpa using h4
end

theorem WX.less {c : Cx} {s s' : S} {o : Oper} {Q : Exit → S → Prop} (h : WX c o s' Q) (hl : Less s' s) : WX c o s Q := fun g a w hs => h g a w (hs.less hl)
theorem Less.ofH {s : S} {H : List (Nat × Row)} (h : ∀ k row, fnd H k = some row → fnd s.H k = some row) : Less ⟨s.n, s.T, H, s.K⟩ s := ⟨rfl, fun i v h => ⟨v, h, .refl _⟩, fun k row h' => ⟨row, h k row h', rfl, rfl, rfl, fun j v hv => ⟨v, hv, .refl _⟩⟩, fun j v h => ⟨v, h, .refl _⟩⟩
/-- A call of function f that panics and leaves objects and kept values as they were. -/
def PX (P : Program) (f : FuncId) (args : List V) (H : List (Nat × Row)) (K : List V) (ch : List PanicEntry) : Prop :=
  ∀ (c : Cx) (s : S) (o : Oper) (fx : Operand) (xs : Array Operand) (tys : Array TypeId) (l : List Nat) (ts : List V) (Q : Exit → S → Prop), c.P = P → o.op = .call { callee := .value fx, args := xs, argTypes := tys } → s.ev fx = some (.fn f []) → xs.toList.map s.ev = args.map some →
    l.map (fun i => fnd s.T i) = ts.map some → s.H = H → ts ++ s.K = K → Q (.panic ch) ⟨s.n, l.zip ts, H, s.K⟩ → WX c o s Q
theorem zip_pre {α β : Type} : ∀ (l : List α) (a b : List β), l.length = a.length → l.zip (a ++ b) = l.zip a
  | [], a, b, _ => by simp
  | x :: l, [], b, h => by simp at h
  | x :: l, y :: a, b, h => by simp only [List.cons_append, List.zip_cons_cons]; rw [zip_pre l a b (by simpa using h)]
theorem PX.intro {P : Program} {f : FuncId} {fn : Func} {code : Code} {n : Nat} {rs : List ResultVar} {args : List V} {H : List (Nat × Row)} {K : List V} {ch : List PanicEntry} (hf : Is P f fn code n rs) (hn : args.length ≤ n)
    (h : ∀ w0 out kx, AW ⟨P, w0, out, kx, []⟩ code (fun e s1 => e = .panic ch ∧ s1.H = H ∧ s1.K = K) ⟨n, enum 0 args, H, K⟩) : PX P f args H K ch := by
  intro c s o fx xs tys l ts Q hP ho hfx hargs hts hH hK hQ
  subst hP hH hK
  have hll : l.length = ts.length := by simpa using congrArg List.length hts
  refine wx_enter l hts hf hn (fun g a w hs => ?_) (fun kx => (h c.w0 c.out kx).mono fun e s1 ⟨h1, h2, h3⟩ => ⟨h1, ?_⟩)
  · obtain ⟨cs, hfv, hcl, _⟩ := fn_eval hs hfx
    obtain rfl : cs = [] := by cases cs with | nil => rfl | cons => simp at hcl
    exact ⟨_, by rw [exec_call (caps := []) hf ho hfv, List.append_nil], args_eval hs hargs⟩
  · rw [h2, h3, zip_pre _ _ _ hll, show (ts ++ s.K).drop l.length = s.K by rw [hll]; simp]
    exact hQ
/-- A contract of a call, for objects in another order. -/
theorem PC.less {P : Program} {f : FuncId} {args : List V} {H H2 : List (Nat × Row)} {K : List V} {post : V → List (Nat × Row) → List V → Prop} (h : PC P f args H K post) (hl : ∀ k row, fnd H k = some row → fnd H2 k = some row) : PC P f args H2 K post := by
  intro c s o fx xs tys l ts hP ho hfx hargs hts hH hK hd g a w hs K' Q' hK'
  have hle : Less ⟨s.n, s.T, H, s.K⟩ s := Less.ofH (fun k row h => by rw [hH]; exact hl k row h)
  exact h c ⟨s.n, s.T, H, s.K⟩ o fx xs tys l ts hP ho hfx hargs hts rfl hK hd g a w (hs.less hle) K' Q' hK'
section
variable {c : Cx} {s : S} {o : Oper} {Q : Exit → S → Prop} {ops : Array Oper} {rest : List Oper} {L : List Oper} {n i : Nat} {la l' : Array Bool}
theorem WX.px {P : Program} {f : FuncId} {args : List V} {H : List (Nat × Row)} {K : List V} {ch : List PanicEntry} {fx : Operand} {xs : Array Operand} {tys : Array TypeId} (l : List Nat) {ts : List V} (h : PX P f args H K ch) (hP : c.P = P) (ho : o.op = .call { callee := .value fx, args := xs, argTypes := tys }) (hfx : s.ev fx = some (.fn f [])) (hargs : xs.toList.map s.ev = args.map some)
    (hts : l.map (fun i => fnd s.T i) = ts.map some) (hH : ∀ k row, fnd H k = some row → fnd s.H k = some row) (hK : ts ++ s.K = K) (hQ : Q (.panic ch) ⟨s.n, l.zip ts, H, s.K⟩) : WX c o s Q :=
  WX.less (h c ⟨s.n, s.T, H, s.K⟩ o fx xs tys l ts Q hP ho hfx hargs hts rfl hK hQ) (Less.ofH hH)
theorem AL.wx (hg : o.guard = none) (h : WX c o s Q) : AL c ops (o :: rest) Q s := fun g a w hs => wpList_plain hg fun K' _ => h g a w hs K'
theorem BR.wx (hi : L[i]? = some o) (hg : o.guard = none) (h : WX c o s Q) : BR c L Q n la s i := ⟨o, hi, hg, fun g a w hs K _ => h g a w hs K⟩
/-- The program throws a value itself. -/
theorem wx_panic {x : Operand} {v : Value} (ho : o.op = .panic x) (hx : s.ev x = some (.d (.p v))) (hv : ∀ w, (execOp (fun _ => v) { o with op := .panic (.const v) }).run c.P w = .halt (.panic v) w) (hQ : Q (.panic [{ v, recovered := false }]) s) : WX c o s Q := by
  intro g a w hs K'
  have h1 : (execOp a.eval o).run c.P w = .halt (.panic v) w := by
    rw [← hv w]
    simp only [execOp, ho, VRep.p_eq (hs.ev hx)]
  unfold Oper.wp
  rw [h1]
  exact ⟨g, s, hQ, hs⟩

def dropT (T : List (Nat × V)) : Option Tmp → List (Nat × V)
  | some d => T.filter (fun x => x.1 != d)
  | none => T
theorem Sim.unput {g : Nat → Nat × Nat} {a : Act} {w : World} {d : Option Tmp} {x : Value} (h : Sim c g s (a.put d x) w) : Sim c g ⟨s.n, dropT s.T d, s.H, s.K⟩ a w := by
  cases d with
  | none => exact h
  | some d =>
    refine ⟨by simpa [Act.put] using h.size, by simpa [Act.put] using h.defers, fun i v hv => ?_, h.nul, h.obj, h.keep, h.inj, h.base, h.low, h.below⟩
    have e : i ≠ d := by
      rintro rfl
      simp only [dropT] at hv
      rw [fnd_filter_self] at hv
      cases hv
    simp only [dropT] at hv
    rw [fnd_filter d _ _ e] at hv
    obtain ⟨y, h1, h2⟩ := h.tmp i v hv
    refine ⟨y, ?_, h2⟩
    simp only [Act.put] at h1
    rwa [Array.getElem?_setIfInBounds_ne (Ne.symm e)] at h1
/-- Where a panic is told without regard to d. -/
def stP (Q : Exit → S → Prop) (d : Option Tmp) : Prop := ∀ ch s, Q (.panic ch) s → Q (.panic ch) ⟨s.n, dropT s.T d, s.H, s.K⟩
theorem AN.rpP {v : V} (hi : L[i]? = some o) (hg : o.guard = none) (hd : dok s o = true) (hp : stP Q o.dst) (hok : (Region.noSelect L.toArray && (Region.ready .any L.toArray la).contains i && Region.free .any L.toArray la i) = true) (hl : la.setIfInBounds i true = l') (h : RP c o s v) (hN : AN c L.toArray Q n l' (s.put o.dst v)) : AN c L.toArray Q (n + 1) la s := by
  intro hcl g a w hs
  simp only [Bool.and_eq_true] at hok
  obtain ⟨⟨h1, h2⟩, h3⟩ := hok
  obtain ⟨x, h4, h5⟩ := h g a w hs
  have hr : i ∈ Region.ready .any L.toArray la := by simpa using h2
  have hi' : L.toArray[i]? = some o := by simpa using hi
  subst hl
  exact anyN_early (N := 0) (oi := o) (fun j hj hlt => .inl rfl) hi' (Region.noSelect_spec h1) (fun ch a w ⟨g, s, k1, k2⟩ => ⟨g, _, hp ch s k1, k2.unput⟩) n la a w hcl (Region.free_spec hi' h3) hr (.inl ⟨by simp [Region.wanted, hg], fun w' _ => h5 w'⟩) trivial (hN (closed_set hcl hr) g _ w (hs.put o.dst (dok_spec hd) h4))
def QJP (N : S) (Q : Exit → S → Prop) : Exit → S → Prop
  | .normal, s => Less N s
  | .panic ch, s => Q (.panic ch) s
  | _, _ => False
theorem AW.drawP {id : Nat} {N : S} (n : Nat) (hm : c.P.follows .mixedOrders = true) (hlen : L.length = n) (hl : Array.replicate n false = la) (h : AN c L.toArray (QJP N Q) n la s) (hN : Q .normal N) : AW c (.region id L.toArray true) Q s := by
  intro g a w hs
  refine wp_mono (Q := QQ c (QJP N Q)) ?_ (fun e a w hq => by
    obtain ⟨g', s', h3, h4⟩ := hq
    cases e <;> first | exact ⟨g', N, hN, h4.less h3⟩ | exact ⟨g', s', h3, h4⟩ | exact h3.elim)
  refine wp_region_any hm ?_
  have hs' : Sim c g s a w.drew := hs.move (Below.drew (Below.refl _ _))
  subst hl hlen
  have h1 := any_of_anyN _ _ _ _ (h (by
    intro j oj _ hl
    rw [Array.getD_eq_getD_getElem?, Array.getElem?_replicate] at hl
    split at hl <;> simp at hl) g a _ hs')
  simpa using h1
/-- A region of which nothing comes: it panics, in whatever order. -/
def QPO (Q : Exit → S → Prop) : Exit → S → Prop
  | .panic ch, s => Q (.panic ch) s
  | _, _ => False
theorem AW.drawPO {id : Nat} (n : Nat) (hm : c.P.follows .mixedOrders = true) (hlen : L.length = n) (hl : Array.replicate n false = la) (h : AN c L.toArray (QPO Q) n la s) : AW c (.region id L.toArray true) Q s := by
  intro g a w hs
  refine wp_mono (Q := QQ c (QPO Q)) ?_ (fun e a w hq => by
    obtain ⟨g', s', h3, h4⟩ := hq
    cases e <;> first | exact ⟨g', s', h3, h4⟩ | exact h3.elim)
  refine wp_region_any hm ?_
  have hs' : Sim c g s a w.drew := hs.move (Below.drew (Below.refl _ _))
  subst hl hlen
  have h1 := any_of_anyN _ _ _ _ (h (by
    intro j oj _ hl
    rw [Array.getD_eq_getD_getElem?, Array.getElem?_replicate] at hl
    split at hl <;> simp at hl) g a _ hs')
  simpa using h1
end
end Go.Proofs.Ythlcginebeapdaa
