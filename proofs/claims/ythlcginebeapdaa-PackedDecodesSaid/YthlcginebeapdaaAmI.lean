/- A call whose body is walked where it stands: what a closure or a method does to objects of its caller. -/
import Derived.Test.YthlcginebeapdaaAmM
namespace Go.Proofs.Ythlcginebeapdaa
open Go.RowKit
set_option linter.unusedSimpArgs false
set_option linter.unusedVariables false

theorem fnd_zip : ∀ (l : List Nat) (vs : List V) (i : Nat) (v : V), fnd (l.zip vs) i = some v → ∃ j : Nat, l[j]? = some i ∧ vs[j]? = some v
  | [], vs, i, v, h => by simp [fnd] at h
  | k :: l, [], i, v, h => by simp [fnd] at h
  | k :: l, u :: vs, i, v, h => by
    simp only [List.zip_cons_cons, fnd] at h
    split at h
    · rename_i e
      simp only [beq_iff_eq] at e
      subst e
      simp only [Option.some.injEq] at h
      subst h
      exact ⟨0, rfl, rfl⟩
    · obtain ⟨j, h1, h2⟩ := fnd_zip l vs i v h
      exact ⟨j + 1, by simpa using h1, by simpa using h2⟩

/-- How the caller goes on: l, its temporaries that it has kept. -/
def QI (P : Program) (rs : List ResultVar) (n : Nat) (l : List Nat) (d : Option Tmp) (N : S → Prop) : Exit → S → Prop
  | .normal, s => ∃ vs, resL P s rs vs ∧ N (S.put ⟨n, l.zip s.K, s.H, s.K.drop l.length⟩ d (tupOf vs))
  | .ret, s => ∃ vs, resL P s rs vs ∧ N (S.put ⟨n, l.zip s.K, s.H, s.K.drop l.length⟩ d (tupOf vs))
  | _, _ => False

section
variable {c : Cx} {s : S} {o : Oper}

theorem st_inline (l : List Nat) {ts : List V} {fx : Operand} {xs : Array Operand} {tys : Array TypeId} {f : FuncId} {caps : List V} {fn : Func} {code : Code} {n : Nat} {rs : List ResultVar} {ars : List V} {N : S → Prop} (hts : l.map (fun i => fnd s.T i) = ts.map some) (hf : Is c.P f fn code n rs)
    (ho : o.op = .call { callee := .value fx, args := xs, argTypes := tys }) (hfx : s.ev fx = some (.fn f caps)) (hargs : xs.toList.map s.ev = ars.map some) (hn : ars.length + caps.length ≤ n) (hd : dok s o = true)
    (h : ∀ kx, AW ⟨c.P, c.w0, c.out, kx, []⟩ code (QI c.P rs s.n l o.dst N) ⟨n, enum 0 (ars ++ caps), s.H, ts ++ s.K⟩) : Step c o s N := by
  intro g a w hs K Q hK
  have hfv := hs.ev hfx
  obtain ⟨cs, hfx', hcl, hcr⟩ : ∃ cs : List Value, a.eval fx = .func (.func f) #[] cs.toArray ∧ caps.length = cs.length ∧ ∀ (j : Nat) (u : V) (y : Value), caps[j]? = some u → cs[j]? = some y → VRep w (qt c s.H g) g u y := by
    generalize a.eval fx = u at hfv
    cases hfv with
    | fn _ _ cs hl h => exact ⟨cs, rfl, hl, h⟩
  have harl : ars.length = xs.toList.length := by simpa using (congrArg List.length hargs).symm
  have harg : ∀ (j : Nat) (u : V) (y : Value), ars[j]? = some u → (xs.toList.map a.eval)[j]? = some y → VRep w (qt c s.H g) g u y := by
    intro j u y hu hy
    have h1 := congrArg (fun l => l[j]?) hargs
    simp only [List.getElem?_map, hu, Option.map_some] at h1 hy
    cases h2 : xs.toList[j]? with
    | none => rw [h2] at h1; cases h1
    | some p =>
      rw [h2] at h1 hy
      simp only [Option.map_some, Option.some.injEq] at h1 hy
      subst hy
      exact hs.ev h1
  have hll : l.length = ts.length := by simpa using congrArg List.length hts
  have hlt : ∀ (j i : Nat) (v : V), l[j]? = some i → ts[j]? = some v → fnd s.T i = some v := by
    intro j i v h1 h2
    have h3 := congrArg (fun l => l[j]?) hts
    simp only [List.getElem?_map, h1, h2, Option.map_some, Option.some.injEq] at h3
    exact h3
  have hlt' : ∀ (j i : Nat), l[j]? = some i → ∃ v x, ts[j]? = some v ∧ fnd s.T i = some v ∧ a.tmps[i]? = some x ∧ VRep w (qt c s.H g) g v x := by
    intro j i h1
    have hj : j < ts.length := by rw [← hll]; exact (List.getElem?_eq_some_iff.1 h1).1
    have h2 := hlt j i ts[j] h1 (List.getElem?_eq_getElem hj)
    obtain ⟨x, h3, h4⟩ := hs.tmp i _ h2
    exact ⟨_, x, List.getElem?_eq_getElem hj, h2, h3, h4⟩
  have hsim : Sim ⟨c.P, c.w0, c.out, l.map (fun i => a.tmps.getD i undef) ++ c.kx, []⟩ g ⟨n, enum 0 (ars ++ caps), s.H, ts ++ s.K⟩ { tmps := ((xs.toList.map a.eval) ++ cs).toArray ++ Array.replicate (fn.ntmps - ((xs.toList.map a.eval) ++ cs).toArray.size) undef, defers := [] } w := by
    refine ⟨?_, rfl, ?_, hs.nul, hs.obj, ?_, hs.inj, hs.base, hs.low, hs.below⟩
    · simp [hf.ntmps]; simp at harl; omega
    · intro i v hv
      obtain ⟨_, h2⟩ := fnd_enum _ 0 i v hv
      simp only [Nat.sub_zero] at h2
      have hi : i < ((xs.toList.map a.eval) ++ cs).length := by
        have := (List.getElem?_eq_some_iff.1 h2).1
        simp at this harl ⊢; omega
      refine ⟨((xs.toList.map a.eval) ++ cs)[i], ?_, ?_⟩
      · rw [hf.ntmps]
        exact enter_get (List.getElem?_eq_getElem hi) (by simp at harl ⊢; omega)
      · by_cases hia : i < ars.length
        · rw [List.getElem?_append_left hia] at h2
          refine harg i v _ h2 ?_
          have hi' : i < (xs.toList.map a.eval).length := by simp at harl ⊢; omega
          rw [List.getElem_append_left hi']
          exact List.getElem?_eq_getElem hi'
        · rw [List.getElem?_append_right (by omega)] at h2
          refine hcr _ v _ h2 ?_
          have hi' : (xs.toList.map a.eval).length ≤ i := by simp at harl ⊢; omega
          rw [List.getElem_append_right hi']
          have e : (xs.toList.map a.eval).length = ars.length := by simp at harl ⊢; omega
          rw [← List.getElem?_eq_getElem, e]
    · intro j v x h1 h2
      by_cases hj : j < ts.length
      · rw [List.getElem?_append_left hj] at h1
        rw [List.getElem?_append_left (by simp; omega)] at h2
        simp only [List.getElem?_map] at h2
        cases h3 : l[j]? with
        | none => rw [h3] at h2; cases h2
        | some i =>
          rw [h3] at h2
          simp only [Option.map_some, Option.some.injEq] at h2
          obtain ⟨v', x', h4, h5, h6, h7⟩ := hlt' j i h3
          rw [h4] at h1
          simp only [Option.some.injEq] at h1
          subst h1
          have : x = x' := by rw [← h2]; simp [Array.getD_eq_getD_getElem?, h6]
          subst this
          exact h7
      · rw [List.getElem?_append_right (by omega)] at h1
        rw [List.getElem?_append_right (by simp; omega)] at h2
        refine hs.keep (j - ts.length) v x h1 ?_
        simpa [hll] using h2
  unfold Oper.wp
  rw [exec_call (caps := cs) hf ho hfx']
  simp only [Oper.upon]
  refine calls_of_wp hf.func hf.body (wp_mono (h (l.map (fun i => a.tmps.getD i undef) ++ c.kx) g _ w hsim) fun e a1 w1 hq => ?_)
  obtain ⟨g1, s1, h1, h2⟩ := hq
  have fin : (∃ vs, resL c.P s1 rs vs ∧ N (S.put ⟨s.n, l.zip s1.K, s1.H, s1.K.drop l.length⟩ o.dst (tupOf vs))) →
      a1.defers = [] ∧ ∃ v, (results fn a1.tmps).run c.P w1 = .ok v w1 ∧ K (a.put o.dst v) w1 := by
    rintro ⟨vs, k1, k2⟩
    obtain ⟨x, k3, k4⟩ := run_results (c := ⟨c.P, c.w0, c.out, l.map (fun i => a.tmps.getD i undef) ++ c.kx, []⟩) hf.results h2 k1
    refine ⟨h2.defers, x, k4, ?_⟩
    refine hK g1 _ _ _ k2 (Sim.put (s := ⟨s.n, l.zip s1.K, s1.H, s1.K.drop l.length⟩) (c := c) ?_ o.dst (dok_spec (s := s) hd) k3)
    refine ⟨hs.size, hs.defers, ?_, h2.nul, h2.obj, ?_, h2.inj, h2.base, h2.low, h2.below⟩
    · intro i v hv
      obtain ⟨j, h3, h4⟩ := fnd_zip _ _ i v hv
      obtain ⟨v', x', h5, h6, h7, h8⟩ := hlt' j i h3
      refine ⟨x', h7, h2.keep j v x' h4 ?_⟩
      have hj : j < l.length := (List.getElem?_eq_some_iff.1 h3).1
      simp only
      rw [List.getElem?_append_left (by simpa using hj)]
      simp [h3, Array.getD_eq_getD_getElem?, h7]
    · intro j v x h3 h4
      refine h2.keep (l.length + j) v x (by simpa using h3) ?_
      simp only
      rw [List.getElem?_append_right (by simp)]
      simpa using h4
  cases e with
  | normal => exact fin h1
  | ret => exact fin h1
  | _ => exact h1.elim
theorem AL.inline (l : List Nat) {ts : List V} {fx : Operand} {xs : Array Operand} {tys : Array TypeId} {f : FuncId} {caps : List V} {fn : Func} {code : Code} {n : Nat} {rs : List ResultVar} {ars : List V} {Q : Exit → S → Prop} {ops : Array Oper} {rest : List Oper} (hg : o.guard = none) (hts : l.map (fun i => fnd s.T i) = ts.map some) (hf : Is c.P f fn code n rs)
    (ho : o.op = .call { callee := .value fx, args := xs, argTypes := tys }) (hfx : s.ev fx = some (.fn f caps)) (hargs : xs.toList.map s.ev = ars.map some) (hn : ars.length + caps.length ≤ n) (hd : dok s o = true)
    (h : ∀ kx, AW ⟨c.P, c.w0, c.out, kx, []⟩ code (QI c.P rs s.n l o.dst (AL c ops rest Q)) ⟨n, enum 0 (ars ++ caps), s.H, ts ++ s.K⟩) : AL c ops (o :: rest) Q s :=
  AL.step hg (st_inline l hts hf ho hfx hargs hn hd h)
end
end Go.Proofs.Ythlcginebeapdaa
