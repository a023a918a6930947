/- (*taker).machine: a call of it, from a walk of its body between the deferral and the ends. -/
import Derived.Test.YthlcginebeapdaaAmDf
import Derived.Test.YthlcginebeapdaaAmT
namespace Go.Proofs.Ythlcginebeapdaa
open Go.RowKit
set_option linter.unusedSimpArgs false
set_option linter.unusedVariables false
set_option maxRecDepth 100000

abbrev mRs : List ResultVar := [.cell 2 24, .cell 3 4]
abbrev clo (p : Addr) : Deferred := { target := .fn (.func 64) #[.pointer (some p)], args := #[] }
/-- How things stand where the bytes were too few. -/
structure PQ (X : Prop) (Hx : List (Nat × Row)) (K : List V) (ch : List PanicEntry) (s : S) : Prop where
  c : ch = shortC
  t2 : fnd s.T 2 = some (.ref 2 0)
  t3 : fnd s.T 3 = some (.ref 3 0)
  m : ∃ k r sz n z, fnd s.H 2 = some ⟨24, [.i k, .own r sz n z], false, 0⟩
  ok : ∃ v, fnd s.H 3 = some ⟨4, [v], false, 0⟩
  h : ∀ k row, fnd Hx k = some row → fnd s.H k = some row
  k : s.K = .ref 3 0 :: K
  x : X
def QD (X : Prop) (Hx : List (Nat × Row)) (K : List V) (post : V → Prop) : Exit → S → Prop
  | .ret, s => ∃ vs, resL Try.prog s mRs vs ∧ post (tupOf vs) ∧ (tupOf vs).pure ∧ (∀ k row, fnd Hx k = some row → fnd s.H k = some row) ∧ s.K = .ref 3 0 :: K
  | .panic ch, s => PQ X Hx K ch s
  | _, _ => False
theorem PQ.drop {X : Prop} {Hx : List (Nat × Row)} {K : List V} {ch : List PanicEntry} {s : S} {d : Tmp} (h : PQ X Hx K ch s) (h2 : 2 ≠ d) (h3 : 3 ≠ d) : PQ X Hx K ch ⟨s.n, dropT s.T (some d), s.H, s.K⟩ :=
  ⟨h.c, (fnd_filter d _ _ h2).trans h.t2, (fnd_filter d _ _ h3).trans h.t3, h.m, h.ok, h.h, h.k, h.x⟩
theorem Sim.setCell' {c : Cx} {g : Nat → Nat × Nat} {s : S} {a : Act} {w : World} (hs : Sim c g s a w) {r k : Nat} {row : Row} {v : V} {x : Value} (hr : fnd s.H r = some row) (hn : row.nil = false) (hk : k < row.cells.length) (hv : VRep w (qt c s.H g) g v x) :
    Sim c g { s with H := (r, { row with cells := row.cells.set k v }) :: s.H } a (w.setCell ⟨(g r).1, k, none⟩ x) := by
  obtain ⟨arr, h1, hz, h2⟩ := hs.obj r row hr hn
  have hlen : k < arr.size := by
    obtain ⟨y, hy, _⟩ := h2 k _ (List.getElem?_eq_getElem hk)
    exact (Array.getElem?_eq_some_iff.1 hy).1
  refine Sim.setRow hs (row' := { row with cells := row.cells.set k v }) (arr' := arr.setIfInBounds k x) hr hn rfl hn rfl (heap_setCell_same _ _ _ _ _ _ h1) (fun b hb => heap_setCell_other _ _ _ _ hb) (by simp [World.setCell]) rfl rfl rfl ?_ ?_
  · intro arr0 ty h0
    rw [h1] at h0
    simp only [Option.some.injEq, Obj.cells.injEq, and_true] at h0
    obtain ⟨rfl, _⟩ := h0
    simp
  · intro j u hu
    simp only [List.getElem?_set] at hu
    split at hu
    · rename_i e
      subst e
      simp only [hk, if_true, Option.some.injEq] at hu
      subst hu
      exact ⟨x, by simp [hlen], hv⟩
    · rename_i e
      obtain ⟨y, h3, h4⟩ := h2 j u hu
      exact ⟨y, by rw [Array.getElem?_setIfInBounds_ne e]; exact h3, h4⟩

theorem pc_machine_of {fn : Func} {c0 c1 body : Code} {n : Nat} {f : FuncId} {args : List V} {H Hx : List (Nat × Row)} {K : List V} {T1 : List (Nat × V)} {H1 : List (Nat × Row)} {post : V → Prop} {X : Prop}
    (hf : Is Try.prog f fn (.seq c0 (.seq c1 body)) n mRs) (hn : args.length ≤ n)
    (hT3 : fnd T1 3 = some (.ref 3 0)) (hX3 : fnd Hx 3 = none)
    (hbad : X → ∀ (k : Int) (a : Option Addr) (n cap : Nat), post (.tup [.agg [.i k, .d (.p (.slice a n cap))], .b false]))
    (h0 : ∀ w0 out kx, AW ⟨Try.prog, w0, out, kx, []⟩ c0 (fun e s1 => e = .normal ∧ s1 = ⟨n, T1, H1, K⟩) ⟨n, enum 0 args, H, K⟩)
    (h1 : ∀ (a : Act) (w : World) (p : Addr), a.defers = [] → a.tmps.size = n → a.tmps[3]? = some (.pointer (some p)) → c1.wp Try.prog (fun e a' w' => e = .normal ∧ w' = w ∧ ∃ y, a' = { a.put (some 6) y with defers := [clo p] }) a w)
    (hT6 : fnd T1 6 = none) (h6 : 6 < n)
    (h2 : ∀ w0 out kx ds, AW ⟨Try.prog, w0, out, kx, ds⟩ body (QD X Hx K post) ⟨n, T1, H1, .ref 3 0 :: K⟩) : PC Try.prog f args H K (fun v H' K' => post v ∧ v.pure ∧ H' = Hx ∧ K' = K) := by
  intro c s o fx xs tys l ts hP ho hfx hargs hts hH hK hd g a w hs K' Q' hK'
  subst hH hK
  have hcP : c.P = Try.prog := hP
  obtain ⟨cs, hfv, hcl, _⟩ := fn_eval hs hfx
  obtain rfl : cs = [] := by cases cs with | nil => rfl | cons => simp at hcl
  obtain ⟨harl, harg⟩ := args_eval hs hargs
  have hf' : Is c.P f fn (.seq c0 (.seq c1 body)) n mRs := by rw [hcP]; exact hf
  have hrun : (execOp a.eval o).run c.P w = .ok (.enter f (xs.toList.map a.eval).toArray) w := by rw [exec_call (caps := []) hf' ho hfv, List.append_nil]
  generalize xs.toList.map a.eval = ys at hrun harl harg
  have hll : l.length = ts.length := by simpa using congrArg List.length hts
  have hlt : ∀ (j i : Nat) (v : V), l[j]? = some i → ts[j]? = some v → fnd s.T i = some v := by
    intro j i v h1 h2
    have h3 := congrArg (fun l => l[j]?) hts
    simp only [List.getElem?_map, h1, h2, Option.map_some, Option.some.injEq] at h3
    exact h3
  have hlt' : ∀ (j i : Nat), l[j]? = some i → ∃ v x, ts[j]? = some v ∧ fnd s.T i = some v ∧ a.tmps[i]? = some x ∧ VRep w (qt c s.H g) g v x := by
    intro j i h1
    have hj : j < ts.length := by rw [← hll]; exact (List.getElem?_eq_some_iff.1 h1).1
    have h2 := hlt j i ts[j] h1 (List.getElem?_eq_getElem hj)
    obtain ⟨x, h3, h4⟩ := hs.tmp i _ h2
    exact ⟨_, x, List.getElem?_eq_getElem hj, h2, h3, h4⟩
  obtain ⟨kx, hkx⟩ : ∃ kx, kx = l.map (fun i => a.tmps.getD i undef) ++ c.kx := ⟨_, rfl⟩
  have hsim : Sim ⟨Try.prog, c.w0, c.out, kx, []⟩ g ⟨n, enum 0 args, s.H, ts ++ s.K⟩ { tmps := ys.toArray ++ Array.replicate (fn.ntmps - ys.toArray.size) undef, defers := [] } w := by
    subst hkx
    refine ⟨?_, rfl, ?_, hs.nul, hs.obj, ?_, hs.inj, hs.base, hs.low, hs.below⟩
    · simp [hf.ntmps]; omega
    · intro i v hv
      obtain ⟨_, h2⟩ := fnd_enum _ 0 i v hv
      simp only [Nat.sub_zero] at h2
      have hi : i < ys.length := by
        have := (List.getElem?_eq_some_iff.1 h2).1
        omega
      refine ⟨ys[i], ?_, ?_⟩
      · rw [hf.ntmps]
        exact enter_get (List.getElem?_eq_getElem hi) (by omega)
      · exact harg i v _ h2 (List.getElem?_eq_getElem hi)
    · intro j v x h1 h2
      by_cases hj : j < ts.length
      · rw [List.getElem?_append_left hj] at h1
        rw [List.getElem?_append_left (by simp; omega)] at h2
        simp only [List.getElem?_map] at h2
        cases h3 : l[j]? with
        | none => rw [h3] at h2; cases h2
        | some i =>
          rw [h3] at h2
          simp only [Option.map_some, Option.some.injEq] at h2
          obtain ⟨v', x', h4, h5, h6, h7⟩ := hlt' j i h3
          rw [h4] at h1
          simp only [Option.some.injEq] at h1
          subst h1
          have : x = x' := by rw [← h2]; simp [Array.getD_eq_getD_getElem?, h6]
          subst this
          exact h7
      · rw [List.getElem?_append_right (by omega)] at h1
        rw [List.getElem?_append_right (by simp; omega)] at h2
        refine hs.keep (j - ts.length) v x h1 ?_
        simpa [hll] using h2
  unfold Oper.wp
  rw [hrun]
  simp only [Oper.upon]
  rw [hcP]
  -- what the caller is told in the end
  have fin : ∀ (ds : List Deferred) (p : Value) (g1 : Nat → Nat × Nat) (s1 : S) (a1 : Act) (w1 : World) (v : V) (x : Value), Sim ⟨Try.prog, c.w0, c.out, p :: kx, ds⟩ g1 s1 a1 w1 → (∀ k row, fnd Hx k = some row → fnd s1.H k = some row) → s1.K = .ref 3 0 :: (ts ++ s.K) → post v → v.pure → VRep w1 (qt ⟨Try.prog, c.w0, c.out, p :: kx, ds⟩ s1.H g1) g1 v x → K' (a.put o.dst x) w1 := by
    intro ds p g1 s1 a1 w1 v x h2 hHx hKx hv hvp hrep
    have h3 := h2.less (Less.ofH (s := s1) hHx)
    refine hK' g1 _ _ _ ⟨v, Hx, ts ++ s.K, ⟨hv, hvp, rfl, rfl⟩, rfl⟩ (Sim.put (s := ⟨s.n, l.zip (ts ++ s.K), Hx, (ts ++ s.K).drop l.length⟩) (c := c) ?_ o.dst (dok_spec (s := s) hd) ((hrep.repure hvp).mono Cells.rfl (fun b hb _ => ⟨hb.1, fun r row hr hn => hb.2 r row (hHx r row hr) hn⟩) (fun r _ => rfl)))
    have hkp : ∀ (j : Nat) (v : V) (x : Value), (ts ++ s.K)[j]? = some v → kx[j]? = some x → VRep w1 (qt c Hx g1) g1 v x := fun j v x k1 k2 => h3.keep (j + 1) v x (by show s1.K[j + 1]? = some v; rw [hKx]; simpa using k1) (by simpa using k2)
    refine ⟨hs.size, hs.defers, ?_, h3.nul, h3.obj, ?_, h3.inj, h3.base, h3.low, h3.below⟩
    · intro i v hv
      obtain ⟨j, k3, k4⟩ := fnd_zip _ _ i v hv
      obtain ⟨v', x', h5, h6, h7, h8⟩ := hlt' j i k3
      refine ⟨x', h7, hkp j v x' k4 ?_⟩
      have hj : j < l.length := (List.getElem?_eq_some_iff.1 k3).1
      rw [hkx, List.getElem?_append_left (by simpa using hj)]
      simp [k3, Array.getD_eq_getD_getElem?, h7]
    · intro j v x k3 k4
      refine hkp (l.length + j) v x (by simpa using k3) ?_
      rw [hkx, List.getElem?_append_right (by simp)]
      simpa using k4
  refine calls_of_wp_defers hf.func hf.body (wp_seq (wp_mono (h0 _ _ _ g _ w hsim) fun e a1 w1 hq => ?_))
  obtain ⟨g1, s1, ⟨rfl, rfl⟩, hs1⟩ := hq
  obtain ⟨x3, hx3, hr3⟩ := hs1.tmp 3 _ hT3
  cases hr3
  refine wp_seq (wp_mono (h1 a1 w1 _ hs1.defers hs1.size hx3) fun e a2 w2 hq => ?_)
  obtain ⟨rfl, rfl, y, rfl⟩ := hq
  have hs2 : Sim ⟨Try.prog, c.w0, c.out, .pointer (some ⟨(g1 3).1, 0, none⟩) :: kx, [clo ⟨(g1 3).1, 0, none⟩]⟩ g1 ⟨n, T1, H1, .ref 3 0 :: (ts ++ s.K)⟩ { a1.put (some 6) y with defers := [clo ⟨(g1 3).1, 0, none⟩] } w2 := by
    refine ⟨by simpa [Act.put] using hs1.size, rfl, fun i v hv => ?_, hs1.nul, hs1.obj, ?_, hs1.inj, hs1.base, hs1.low, hs1.below⟩
    · have hi : i ≠ 6 := by rintro rfl; simp only at hv; rw [hT6] at hv; cases hv
      obtain ⟨x, k1, k2⟩ := hs1.tmp i v hv
      refine ⟨x, ?_, k2⟩
      simp only [Act.put]
      rw [Array.getElem?_setIfInBounds_ne (Ne.symm hi)]
      exact k1
    · intro j v x k1 k2
      cases j with
      | zero =>
        simp only [List.getElem?_cons_zero, Option.some.injEq] at k1 k2
        subst k1 k2
        exact .ref 3 0
      | succ j => exact hs1.keep j v x (by simpa using k1) (by simpa using k2)
  refine wp_mono (h2 _ _ _ _ g1 _ w2 hs2) fun e a3 w3 hq => ?_
  obtain ⟨g3, s3, hq, hs3⟩ := hq
  cases e with
  | ret =>
    obtain ⟨vs, k1, k2, k3, k4, k5⟩ := hq
    obtain ⟨x, k6, k7⟩ := run_results hf.results hs3 k1
    show Leaves _ _ _ _ a3.defers _ _
    rw [hs3.defers]
    refine leaves_cons (f := 64) (args := #[.pointer (some ⟨(g1 3).1, 0, none⟩)]) (by simp) (by simp [go_sem]) ?_
    refine (catch_idle ⟨(g1 3).1, 0, none⟩ w3).mono ?_
    rintro e u' w'' ⟨rfl, rfl, rfl⟩
    exact ⟨x, k7, fin _ _ _ _ _ _ _ _ hs3 k4 k5 k2 k3 k6⟩
  | panic ch =>
    obtain ⟨rfl, t2, t3, ⟨kk, kr, ksz, kn, kz, hm⟩, ⟨b, hok⟩, hh, hk, hxx⟩ := hq
    show Leaves _ _ _ _ a3.defers _ _
    rw [hs3.defers]
    have hp : (⟨(g3 3).1, 0, none⟩ : Addr) = ⟨(g1 3).1, 0, none⟩ := by
      have := hs3.keep 0 (.ref 3 0) (.pointer (some ⟨(g1 3).1, 0, none⟩)) (by rw [hk]; rfl) rfl
      generalize (g1 3).1 = B at this ⊢
      cases this
      rfl
    obtain ⟨arr, r1, _, r2⟩ := hs3.obj 3 _ hok rfl
    obtain ⟨z, r3, _⟩ := r2 0 b rfl
    have hlt3 : (g3 3).1 < w3.heap.size := (Array.getElem?_eq_some_iff.1 r1).1
    refine leaves_cons (f := 64) (args := #[.pointer (some ⟨(g1 3).1, 0, none⟩)]) (by simp) (by simp [go_sem]) ?_
    rw [← hp]
    refine (catch_short ⟨(g3 3).1, 0, none⟩ z w3 ((cell_of_row w3 _ _ _ _ _ r1).trans r3) (frozen_of_row w3 _ 0 _ _ r1) hlt3).mono ?_
    rintro e u' w'' ⟨rfl, rfl, rfl⟩
    have hB : Below w3.heap.size w3 (w3.alloc (.cells #[] 110)) := (Below.refl _ _).alloc (Nat.le_refl _) _
    have hs4 := (hs3.move hB).setCell' (k := 0) (v := .b false) (x := .bool false) hok rfl (by simp) (.d _ _ (.p _))
    have hm4 : fnd ((3, (⟨4, [.b false], false, 0⟩ : Row)) :: s3.H) 2 = some ⟨24, [.i kk, .own kr ksz kn kz], false, 0⟩ := by simpa [fnd] using hm
    obtain ⟨x, k6, k7⟩ := run_results (c := ⟨Try.prog, c.w0, c.out, .pointer (some ⟨(g1 3).1, 0, none⟩) :: kx, [clo ⟨(g1 3).1, 0, none⟩]⟩) (rs := mRs) (vs := [.agg [.i kk, .own kr ksz kn kz], .b false]) hf.results hs4 ⟨⟨2, 0, _, _, t2, hm4, rfl, Try.underlying24, .inr ⟨rfl, _, _, _, _, inf24, rfl, rfl, rfl⟩⟩, ⟨3, 0, ⟨4, [.b false], false, 0⟩, _, t3, by simp [fnd], rfl, Try.underlying4, .inl ⟨rfl, rfl⟩⟩, trivial⟩
    obtain ⟨a, nn, cap, k8⟩ : ∃ a nn cap, VRep ((w3.alloc (.cells #[] 110)).setCell ⟨(g3 3).1, 0, none⟩ (.bool false)) (qt ⟨Try.prog, c.w0, c.out, .pointer (some ⟨(g1 3).1, 0, none⟩) :: kx, [clo ⟨(g1 3).1, 0, none⟩]⟩ ((3, (⟨4, [.b false], false, 0⟩ : Row)) :: s3.H) g3) g3 (.tup [.agg [.i kk, .d (.p (.slice a nn cap))], .b false]) x := by
      cases k6 with
      | tup _ cs hl hc =>
        match cs, hl, hc with
        | [c0, c1], _, hc =>
          have h0 := hc 0 _ c0 rfl rfl
          have h1 := hc 1 _ c1 rfl rfl
          cases h0 with
          | agg _ es hl2 hd =>
            match es, hl2, hd with
            | [d0, d1], _, hd =>
              have e0 := hd 0 _ d0 rfl rfl
              have e1 := hd 1 _ d1 rfl rfl
              obtain ⟨a, nn, cap, rfl⟩ : ∃ a nn cap, d1 = .slice a nn cap := by
                cases e1 with
                | own => exact ⟨_, _, _, rfl⟩
                | ownNil => exact ⟨_, _, _, rfl⟩
              refine ⟨a, nn, cap, .tup _ [.agg [d0, .slice a nn cap].toArray, c1] rfl fun j z y hz hy => ?_⟩
              match j, hz, hy with
              | 0, hz, hy =>
                simp only [List.getElem?_cons_zero, Option.some.injEq] at hz hy
                subst hz hy
                refine .agg _ [d0, .slice a nn cap] rfl fun j z y hz hy => ?_
                match j, hz, hy with
                | 0, hz, hy => simp only [List.getElem?_cons_zero, Option.some.injEq] at hz hy; subst hz hy; exact e0
                | 1, hz, hy => simp only [List.getElem?_cons_succ, List.getElem?_cons_zero, Option.some.injEq] at hz hy; subst hz hy; exact .d _ _ (.p _)
                | j + 2, hz, hy => simp at hz
              | 1, hz, hy => simp only [List.getElem?_cons_succ, List.getElem?_cons_zero, Option.some.injEq] at hz hy; subst hz hy; exact h1
              | j + 2, hz, hy => simp at hz
    refine ⟨x, k7, fin _ _ _ _ _ _ _ _ hs4 ?_ hk (hbad hxx kk a nn cap) (by simp [V.pure, V.has, V.hasL]) k8⟩
    intro k row hr
    have e : 3 ≠ k := by rintro rfl; rw [hX3] at hr; cases hr
    simp only [fnd, beq_iff_eq]
    rw [if_neg e]
    exact hh k row hr
  | _ => exact hq.elim
end Go.Proofs.Ythlcginebeapdaa
