/- Drawn regions in which calls work on an object of their caller, while reads of another one, whose cells are known exactly, may come at any time. -/
import Derived.Test.YtjbldphpkkmdpaaAmTree
namespace Go.Proofs.Ytjbldphpkkmdpaa
open Go.RowKit
set_option linter.unusedSimpArgs false
set_option linter.unusedVariables false

/-- One operation, that sets no other slot than its own. -/
def StepA (c : Cx) (o : Oper) (s : S) (N : S → Prop) : Prop := ∀ g a w, Sim c g s a w → ∀ (K : Act → World → Prop) (Q : Exit → Act → World → Prop),
  (∀ g' s' x w', N s' → Sim c g' s' (a.put o.dst x) w' → K (a.put o.dst x) w') → o.wp c.P a w K Q
section
variable {c : Cx} {s : S} {o : Oper}
theorem StepA.step {N : S → Prop} (h : StepA c o s N) : Step c o s N := fun g a w hs K Q hK => h g a w hs K Q fun g' s' x w' h1 h2 => hK g' s' _ w' h1 h2
theorem st_enterA (l : List Nat) {ts : List V} {f : FuncId} {fn : Func} {code : Code} {n : Nat} {rs : List ResultVar} {ars : List V} {N : S → Prop} (hts : l.map (fun i => fnd s.T i) = ts.map some) (hf : Is c.P f fn code n rs) (hn : ars.length ≤ n) (hd : dok s o = true)
    (hex : ∀ g a w, Sim c g s a w → ∃ xs : List Value, (execOp a.eval o).run c.P w = .ok (.enter f xs.toArray) w ∧ VReps w (qt c s.H g) g ars xs)
    (h : ∀ kx, AW ⟨c.P, c.w0, c.out, kx⟩ code (QI c.P rs s.n l o.dst N) ⟨n, enum 0 ars, s.H, ts ++ s.K⟩) : StepA c o s N := by
  intro g a w hs K Q hK
  obtain ⟨xs, hrun, harl, harg⟩ := hex g a w hs
  have hll : l.length = ts.length := by simpa using congrArg List.length hts
  have hlt : ∀ (j i : Nat) (v : V), l[j]? = some i → ts[j]? = some v → fnd s.T i = some v := by
    intro j i v h1 h2
    have h3 := congrArg (fun l => l[j]?) hts
    simp only [List.getElem?_map, h1, h2, Option.map_some, Option.some.injEq] at h3
    exact h3
  have hlt' : ∀ (j i : Nat), l[j]? = some i → ∃ v x, ts[j]? = some v ∧ fnd s.T i = some v ∧ a.tmps[i]? = some x ∧ VRep w (qt c s.H g) g v x := by
    intro j i h1
    have hj : j < ts.length := by rw [← hll]; exact (List.getElem?_eq_some_iff.1 h1).1
    have h2 := hlt j i ts[j] h1 (List.getElem?_eq_getElem hj)
    obtain ⟨x, h3, h4⟩ := hs.tmp i _ h2
    exact ⟨_, x, List.getElem?_eq_getElem hj, h2, h3, h4⟩
  have hsim : Sim ⟨c.P, c.w0, c.out, l.map (fun i => a.tmps.getD i undef) ++ c.kx⟩ g ⟨n, enum 0 ars, s.H, ts ++ s.K⟩ { tmps := xs.toArray ++ Array.replicate (fn.ntmps - xs.toArray.size) undef, defers := [] } w := by
    refine ⟨?_, rfl, ?_, hs.nul, hs.obj, ?_, hs.inj, hs.base, hs.low, hs.below⟩
    · simp [hf.ntmps]; omega
    · intro i v hv
      obtain ⟨_, h2⟩ := fnd_enum _ 0 i v hv
      simp only [Nat.sub_zero] at h2
      have hi : i < xs.length := by
        have := (List.getElem?_eq_some_iff.1 h2).1
        omega
      refine ⟨xs[i], ?_, ?_⟩
      · rw [hf.ntmps]
        exact enter_get (List.getElem?_eq_getElem hi) (by omega)
      · exact harg i v _ h2 (List.getElem?_eq_getElem hi)
    · intro j v x h1 h2
      by_cases hj : j < ts.length
      · rw [List.getElem?_append_left hj] at h1
        rw [List.getElem?_append_left (by simp; omega)] at h2
        simp only [List.getElem?_map] at h2
        cases h3 : l[j]? with
        | none => rw [h3] at h2; cases h2
        | some i =>
          rw [h3] at h2
          simp only [Option.map_some, Option.some.injEq] at h2
          obtain ⟨v', x', h4, h5, h6, h7⟩ := hlt' j i h3
          rw [h4] at h1
          simp only [Option.some.injEq] at h1
          subst h1
          have : x = x' := by rw [← h2]; simp [Array.getD_eq_getD_getElem?, h6]
          subst this
          exact h7
      · rw [List.getElem?_append_right (by omega)] at h1
        rw [List.getElem?_append_right (by simp; omega)] at h2
        refine hs.keep (j - ts.length) v x h1 ?_
        simpa [hll] using h2
  unfold Oper.wp
  rw [hrun]
  simp only [Oper.upon]
  refine calls_of_wp hf.func hf.body (wp_mono (h (l.map (fun i => a.tmps.getD i undef) ++ c.kx) g _ w hsim) fun e a1 w1 hq => ?_)
  obtain ⟨g1, s1, h1, h2⟩ := hq
  have fin : (∃ vs, resL c.P s1 rs vs ∧ N (S.put ⟨s.n, l.zip s1.K, s1.H, s1.K.drop l.length⟩ o.dst (tupOf vs))) →
      a1.defers = [] ∧ ∃ v, (results fn a1.tmps).run c.P w1 = .ok v w1 ∧ K (a.put o.dst v) w1 := by
    rintro ⟨vs, k1, k2⟩
    obtain ⟨x, k3, k4⟩ := run_results (c := ⟨c.P, c.w0, c.out, l.map (fun i => a.tmps.getD i undef) ++ c.kx⟩) hf.results h2 k1
    refine ⟨h2.defers, x, k4, ?_⟩
    refine hK g1 _ x _ k2 (Sim.put (s := ⟨s.n, l.zip s1.K, s1.H, s1.K.drop l.length⟩) (c := c) ?_ o.dst (dok_spec (s := s) hd) k3)
    refine ⟨hs.size, hs.defers, ?_, h2.nul, h2.obj, ?_, h2.inj, h2.base, h2.low, h2.below⟩
    · intro i v hv
      obtain ⟨j, h3, h4⟩ := fnd_zip _ _ i v hv
      obtain ⟨v', x', h5, h6, h7, h8⟩ := hlt' j i h3
      refine ⟨x', h7, h2.keep j v x' h4 ?_⟩
      have hj : j < l.length := (List.getElem?_eq_some_iff.1 h3).1
      simp only
      rw [List.getElem?_append_left (by simpa using hj)]
      simp [h3, Array.getD_eq_getD_getElem?, h7]
    · intro j v x h3 h4
      refine h2.keep (l.length + j) v x (by simpa using h3) ?_
      simp only
      rw [List.getElem?_append_right (by simp)]
      simpa using h4
  cases e with
  | normal => exact fin h1
  | ret => exact fin h1
  | _ => exact h1.elim
end
/-- As PC: a call of function f with the objects H and the kept values K. -/
def PCA (P : Program) (f : FuncId) (args : List V) (H : List (Nat × Row)) (K : List V) (post : V → List (Nat × Row) → List V → Prop) : Prop :=
  ∀ (c : Cx) (s : S) (o : Oper) (fx : Operand) (xs : Array Operand) (tys : Array TypeId) (l : List Nat) (ts : List V), c.P = P → o.op = .call { callee := .value fx, args := xs, argTypes := tys } → s.ev fx = some (.fn f []) → xs.toList.map s.ev = args.map some →
    l.map (fun i => fnd s.T i) = ts.map some → s.H = H → ts ++ s.K = K → dok s o = true → StepA c o s (fun s' => ∃ v H' K', post v H' K' ∧ s' = back s l o.dst v H' K')
theorem PCA.intro {P : Program} {f : FuncId} {fn : Func} {code : Code} {n : Nat} {rs : List ResultVar} {args : List V} {H : List (Nat × Row)} {K : List V} {post : V → List (Nat × Row) → List V → Prop} (hf : Is P f fn code n rs) (hn : args.length ≤ n)
    (h : ∀ w0 out kx, AW ⟨P, w0, out, kx⟩ code (QP P rs post) ⟨n, enum 0 args, H, K⟩) : PCA P f args H K post := by
  intro c s o fx xs tys l ts hP ho hfx hargs hts hH hK hd
  subst hP hH hK
  refine st_enterA l hts hf hn hd (fun g a w hs => ?_) (fun kx => (h c.w0 c.out kx).mono fun e s1 hq => hq.toQI)
  obtain ⟨cs, hfv, hcl, _⟩ := fn_eval hs hfx
  obtain rfl : cs = [] := by cases cs with | nil => rfl | cons => simp at hcl
  exact ⟨_, by rw [exec_call (caps := []) hf ho hfv, List.append_nil], args_eval hs hargs⟩
theorem PCA.pc {P : Program} {f : FuncId} {args : List V} {H : List (Nat × Row)} {K : List V} {post : V → List (Nat × Row) → List V → Prop} (h : PCA P f args H K post) : PC P f args H K post :=
  fun c s o fx xs tys l ts h1 h2 h3 h4 h5 h6 h7 h8 => (h c s o fx xs tys l ts h1 h2 h3 h4 h5 h6 h7 h8).step

/-- Block b holds these cells. -/
def TX (b : Nat) (cs : List Value) (w : World) : Prop := ∀ (j : Nat) (v : Value), cs[j]? = some v → w.cell? ⟨b, j, none⟩ = some v
section
variable {c : Cx} {s : S} {Q : Exit → S → Prop} {L : List Oper} {n r : Nat} {l l' : Array Bool} {i : Nat} {o : Oper} {cs : List Value} {row : Row}
theorem tx_of {g : Nat → Nat × Nat} {a : Act} {w : World} (hs : Sim c g s a w) (hr : fnd s.H r = some row) (hn : row.nil = false) (hc : row.cells = cs.map fun v => .d (.p v)) : TX (g r).1 cs w := fun j v hv => by
  obtain ⟨arr, h1, _, h2⟩ := hs.obj r row hr hn
  obtain ⟨y, h3, h4⟩ := h2 j (.d (.p v)) (by rw [hc]; simp [hv])
  rw [VRep.p_eq h4] at h3
  exact (cell_of_row w _ _ _ _ _ h1).trans h3
theorem ref_same {s' : S} {g g' : Nat → Nat × Nat} {a : Act} {w w' : World} {x : Value} {slot : Nat} (h : fnd s.T slot = some (.ref r 0)) (h' : fnd s'.T slot = some (.ref r 0)) (hd : o.dst ≠ some slot) (hs : Sim c g s a w) (hs' : Sim c g' s' (a.put o.dst x) w') : (g' r).1 = (g r).1 := by
  obtain ⟨y, h1, h2⟩ := hs.tmp slot _ h
  obtain ⟨y', h3, h4⟩ := hs'.tmp slot _ h'
  have e : (a.put o.dst x).tmps[slot]? = a.tmps[slot]? := by
    cases hdst : o.dst with
    | none => rfl
    | some d =>
      simp only [Act.put]
      rw [Array.getElem?_setIfInBounds_ne]
      intro e
      exact hd (by rw [hdst, e])
  rw [e, h1] at h3
  simp only [Option.some.injEq] at h3
  subst h3
  cases h2
  generalize hp : (Value.pointer (some ⟨(g r).1, 0, none⟩)) = p at h4
  cases h4
  simp at hp
  exact hp.symm
def AX (r : Nat) (cs : List Value) (c : Cx) (ops : Array Oper) (Q : Exit → S → Prop) (n : Nat) (l : Array Bool) (s : S) : Prop := closedL .any ops l → ∀ g a w, Sim c g s a w → anyN c.P .any ops (QQ c Q) (TX (g r).1 cs) (fun _ => true) n l a w
theorem AX.rp {v : V} (hi : L[i]? = some o) (hg : o.guard = none) (hd : dok s o = true) (hp : noP Q) (hok : (Region.noSelect L.toArray && (Region.ready .any L.toArray l).contains i && Region.free .any L.toArray l i) = true) (hl : l.setIfInBounds i true = l') (hr : fnd s.H r = some row) (hn : row.nil = false) (hc : row.cells = cs.map fun v => .d (.p v)) (h : RP c o s v) (hN : AX r cs c L.toArray Q n l' (s.put o.dst v)) : AX r cs c L.toArray Q (n + 1) l s := by
  intro hcl g a w hs
  simp only [Bool.and_eq_true] at hok
  obtain ⟨⟨h1, h2⟩, h3⟩ := hok
  obtain ⟨x, h4, h5⟩ := h g a w hs
  have hr' : i ∈ Region.ready .any L.toArray l := by simpa using h2
  have hi' : L.toArray[i]? = some o := by simpa using hi
  subst hl
  exact anyN_early (N := 0) (oi := o) (fun j hj hlt => .inl rfl) hi' (Region.noSelect_spec h1) (QQ_noP hp _ _) n l a w hcl (Region.free_spec hi' h3) hr' (.inl ⟨by simp [Region.wanted, hg], fun w' _ => h5 w'⟩) (tx_of hs hr hn hc) (hN (closed_set hcl hr') g _ w (hs.put o.dst (dok_spec hd) h4))
theorem AX.rd {t : TypeId} {d : TypeDesc} {x : Operand} {k : Nat} {v : Value} (hi : L[i]? = some o) (hg : o.guard = none) (hd : dok s o = true) (hp : noP Q) (hok : (Region.noSelect L.toArray && (Region.ready .any L.toArray l).contains i && Region.free .any L.toArray l i) = true) (hl : l.setIfInBounds i true = l') (hr : fnd s.H r = some row) (hn : row.nil = false) (hc : row.cells = cs.map fun v => .d (.p v))
    (hu : c.P.underlying t = some d) (hda : isAggD d = false) (ho : o.op = .load t x) (hx : s.ev x = some (.ref r k)) (hv : cs[k]? = some v) (hN : AX r cs c L.toArray Q n l' (s.put o.dst (.d (.p v)))) : AX r cs c L.toArray Q (n + 1) l s := by
  intro hcl g a w hs
  simp only [Bool.and_eq_true] at hok
  obtain ⟨⟨h1, h2⟩, h3⟩ := hok
  have hr' : i ∈ Region.ready .any L.toArray l := by simpa using h2
  have hi' : L.toArray[i]? = some o := by simpa using hi
  have hy : ∀ w', TX (g r).1 cs w' → (execOp a.eval o).run c.P w' = .ok (.value v) w' := by
    intro w' hT
    have hcell := hT k v hv
    have h := hs.ev hx
    generalize hyy : a.eval x = z at h
    cases h
    simp [execOp, ho, hyy, Instr.loadAt, Instr.sureAddr, loadVar, run_isAgg hu, hda, hcell]
  subst hl
  exact anyN_early (N := 0) (oi := o) (fun j hj hlt => .inl rfl) hi' (Region.noSelect_spec h1) (QQ_noP hp _ _) n l a w hcl (Region.free_spec hi' h3) hr' (.inl ⟨by simp [Region.wanted, hg], hy⟩) (tx_of hs hr hn hc) (hN (closed_set hcl hr') g _ w (hs.put o.dst (dok_spec hd) (.d _ _ (.p _))))
theorem AX.pc {P : Program} {f : FuncId} {args : List V} {H : List (Nat × Row)} {K : List V} {post : V → List (Nat × Row) → List V → Prop} {fx : Operand} {xs : Array Operand} {tys : Array TypeId} (slot : Nat) (hrd : Region.ready .any L.toArray l = [i]) (hi : L[i]? = some o) (hl : l.setIfInBounds i true = l') (hsl : fnd s.T slot = some (.ref r 0)) (hds : o.dst ≠ some slot)
    (ls : List Nat) {ts : List V} (h : PCA P f args H K post) (hg : o.guard = none) (hP : c.P = P) (ho : o.op = .call { callee := .value fx, args := xs, argTypes := tys }) (hfx : s.ev fx = some (.fn f [])) (hargs : xs.toList.map s.ev = args.map some)
    (hts : ls.map (fun i => fnd s.T i) = ts.map some) (hH : s.H = H) (hK : ts ++ s.K = K) (hd : dok s o = true) (hN : ∀ v H' K', post v H' K' → (fnd (back s ls o.dst v H' K').T slot = some (.ref r 0) ∧ ∃ row, fnd (back s ls o.dst v H' K').H r = some row ∧ row.nil = false ∧ row.cells = cs.map fun v => .d (.p v)) ∧ AX r cs c L.toArray Q n l' (back s ls o.dst v H' K')) : AX r cs c L.toArray Q (n + 1) l s := by
  intro hcl g a w hs
  refine ⟨fun h0 => (by rw [h0] at hrd; cases hrd), fun j hj => ?_⟩
  have hj' := hj
  rw [hrd] at hj
  obtain rfl := List.mem_singleton.1 hj
  subst hl
  refine wpOp_of (by simpa using hi) hg (h c s o fx xs tys ls ts hP ho hfx hargs hts hH hK hd g a w hs _ _ fun g' s' x w' hn hs' => ?_)
  obtain ⟨v, H', K2, h1, h2⟩ := hn
  subst h2
  obtain ⟨⟨h3, row, h4, h5, h6⟩, h7⟩ := hN v H' K2 h1
  have e := ref_same hsl h3 hds hs hs'
  have h8 := h7 (closed_set hcl hj') g' _ w' hs'
  rw [e] at h8
  exact ⟨fun _ => by rw [← e]; exact tx_of hs' h4 h5 h6, h8⟩
theorem AX.nil (hr : Region.ready .any L.toArray l = []) (h : Q .normal s) : AX r cs c L.toArray Q 0 l s := fun hcl g a w hs => ⟨hr, g, s, h, hs⟩
theorem AW.drawX9 {id : Nat} (r : Nat) (cs : List Value) (n : Nat) (hm : c.P.follows .mixedOrders = true) (hlen : L.length = n) (hl : Array.replicate n false = l) (h : AX r cs c L.toArray Q n l s) : AW c (.region id L.toArray true) Q s := by
  intro g a w hs
  refine wp_region_any hm ?_
  have hs' : Sim c g s a w.drew := hs.move (Below.drew (Below.refl _ _))
  subst hl hlen
  have h1 := any_of_anyN _ _ _ _ (h (by
    intro j oj _ hl
    rw [Array.getD_eq_getD_getElem?, Array.getElem?_replicate] at hl
    split at hl <;> simp at hl) g a _ hs')
  simpa using h1
end
end Go.Proofs.Ytjbldphpkkmdpaa
