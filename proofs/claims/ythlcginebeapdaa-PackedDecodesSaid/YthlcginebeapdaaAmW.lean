/- Functions whose result the caller may change: it comes with objects of its own. -/
import Derived.Test.YthlcginebeapdaaAmU
namespace Go.Proofs.Ythlcginebeapdaa
open Go.RowKit
set_option linter.unusedSimpArgs false
set_option linter.unusedVariables false

/-- The objects H, new since N, among blocks that are quiet as q says. -/
structure Objs (w : World) (q : Nat → Prop) (N : Nat) (g : Nat → Nat × Nat) (H : List (Nat × Row)) : Prop where
  nul : ∀ r row, fnd H r = some row → row.nil = true → row.cells = []
  obj : ∀ r row, fnd H r = some row → row.nil = false → ∃ arr : Array Value, w.heap[(g r).1]? = some (.cells arr row.ty (0, 0)) ∧ (row.sz ≠ 0 → arr.size = (g r).2 * row.sz) ∧ ∀ (j : Nat) (v : V), row.cells[j]? = some v → ∃ x, arr[j]? = some x ∧ VRep w (fun b => q b ∧ ∀ r row, fnd H r = some row → row.nil = false → (g r).1 ≠ b) g v x
  inj : ∀ r r' row row', fnd H r = some row → row.nil = false → fnd H r' = some row' → row'.nil = false → (g r).1 = (g r').1 → r = r'
  new : ∀ r row, fnd H r = some row → row.nil = false → N ≤ (g r).1
  closed : ∀ r row k, fnd H r = some row → V.hasL k row.cells = true → ∃ row', (k, row') ∈ H

def FnO (P : Program) (f : FuncId) (args : List V) (post : V → List (Nat × Row) → Prop) : Prop := ∀ (w : World) (out : Nat → Prop) (g : Nat → Nat × Nat) (xs : List Value), (∀ b, out b → b < w.heap.size) → VReps w (fun b => ¬ out b) g args xs →
  Calls P f xs.toArray w fun e w' => ∃ v x g' H, e = .returned x ∧ post v H ∧ (∀ k, v.has k = true → ∃ row', (k, row') ∈ H) ∧ Objs w' (fun b => ¬ out b) w.heap.size g' H ∧ VRep w' (fun b => ¬ out b ∧ ∀ r row, fnd H r = some row → row.nil = false → (g' r).1 ≠ b) g' v x ∧ Below w.heap.size w w'

def QFO (P : Program) (rs : List ResultVar) (post : V → List (Nat × Row) → Prop) : Exit → S → Prop
  | .normal, s => ∃ vs H, resL P s rs vs ∧ LH s H ∧ post (tupOf vs) H ∧ (∀ k, (tupOf vs).has k = true → ∃ row', (k, row') ∈ H) ∧ ∀ r row k, fnd H r = some row → V.hasL k row.cells = true → ∃ row', (k, row') ∈ H
  | .ret, s => ∃ vs H, resL P s rs vs ∧ LH s H ∧ post (tupOf vs) H ∧ (∀ k, (tupOf vs).has k = true → ∃ row', (k, row') ∈ H) ∧ ∀ r row k, fnd H r = some row → V.hasL k row.cells = true → ∃ row', (k, row') ∈ H
  | _, _ => False

theorem FnO.intro {P : Program} {f : FuncId} {fn : Func} {code : Code} {n : Nat} {rs : List ResultVar} {args : List V} {post : V → List (Nat × Row) → Prop} (hf : Is P f fn code n rs) (hp : ∀ v ∈ args, v.pure) (hn : args.length ≤ n)
    (h : ∀ w0 out, AW ⟨P, w0, out, [], []⟩ code (QFO P rs post) ⟨n, enum 0 args, [], []⟩) : FnO P f args post := by
  intro w out g xs hout hx
  refine calls_of_wp hf.func hf.body ?_
  have hs : Sim ⟨P, w, out, [], []⟩ g ⟨n, enum 0 args, [], []⟩ { tmps := xs.toArray ++ Array.replicate (fn.ntmps - xs.toArray.size) undef, defers := [] } w := by
    refine ⟨?_, rfl, ?_, by simp [fnd], by simp [fnd], by simp, by simp [fnd], by simp [fnd], hout, Below.refl _ _⟩
    · simp [hf.ntmps, ← hx.1]; omega
    · intro i v hv
      obtain ⟨_, h2⟩ := fnd_enum args 0 i v hv
      simp only [Nat.sub_zero] at h2
      have hi : i < xs.length := by rw [← hx.1]; exact (List.getElem?_eq_some_iff.1 h2).1
      refine ⟨xs[i], ?_, ?_⟩
      · rw [hf.ntmps]
        exact enter_get (List.getElem?_eq_getElem hi) (by rw [← hx.1]; exact hn)
      · refine (hx.2 i v _ h2 (List.getElem?_eq_getElem hi)).mono Cells.rfl (fun b hb _ => ⟨hb, by simp [fnd]⟩) (fun r _ => rfl)
  refine wp_mono (h w out g _ w hs) fun e a' w' hq => ?_
  obtain ⟨g', s', h1, h2⟩ := hq
  have fin : (∃ vs H, resL P s' rs vs ∧ LH s' H ∧ post (tupOf vs) H ∧ (∀ k, (tupOf vs).has k = true → ∃ row', (k, row') ∈ H) ∧ ∀ r row k, fnd H r = some row → V.hasL k row.cells = true → ∃ row', (k, row') ∈ H) →
      a'.defers = [] ∧ ∃ v, (results fn a'.tmps).run P w' = .ok v w' ∧ ∃ v_1 x g' H, Ending.returned v = .returned x ∧ post v_1 H ∧ (∀ k, v_1.has k = true → ∃ row', (k, row') ∈ H) ∧ Objs w' (fun b => ¬ out b) w.heap.size g' H ∧ VRep w' (fun b => ¬ out b ∧ ∀ r row, fnd H r = some row → row.nil = false → (g' r).1 ≠ b) g' v_1 x ∧ Below w.heap.size w w' := by
    rintro ⟨vs, H, k1, k2, k3, k4, k5⟩
    obtain ⟨x, k6, k7⟩ := run_results (c := ⟨P, w, out, [], []⟩) hf.results h2 k1
    have hq : ∀ b, qt ⟨P, w, out, [], []⟩ s'.H g' b → b < w'.heap.size → ¬ out b ∧ ∀ r row, fnd H r = some row → row.nil = false → (g' r).1 ≠ b := fun b hb _ => ⟨hb.1, fun r row hr hn => hb.2 r row (k2.get r row hr) hn⟩
    have hm : ∀ {v x}, VRep w' (qt ⟨P, w, out, [], []⟩ s'.H g') g' v x → VRep w' (fun b => ¬ out b ∧ ∀ r row, fnd H r = some row → row.nil = false → (g' r).1 ≠ b) g' v x := fun hv => hv.mono Cells.rfl hq (fun _ _ => rfl)
    refine ⟨h2.defers, x, k7, _, x, g', H, rfl, k3, k4, ⟨fun r row hr hn => h2.nul r row (k2.get r row hr) hn, fun r row hr hn => ?_, fun r r' row row' a1 a2 a3 a4 a5 => h2.inj r r' row row' (k2.get r row a1) a2 (k2.get r' row' a3) a4 a5, fun r row hr hn => h2.base r row (k2.get r row hr) hn, k5⟩, hm k6, h2.below⟩
    obtain ⟨arr, a1, a2, a3⟩ := h2.obj r row (k2.get r row hr) hn
    refine ⟨arr, a1, a2, fun j v hv => ?_⟩
    obtain ⟨y, a4, a5⟩ := a3 j v hv
    exact ⟨y, a4, hm a5⟩
  cases e with
  | normal => exact fin h1
  | ret => exact fin h1
  | _ => exact h1.elim

section
variable {c : Cx} {s : S} {o : Oper}

/-- A call of a function whose result comes with objects. -/
theorem sm_callo {fx : Operand} {xs : Array Operand} {ts : Array TypeId} {f : FuncId} {fn : Func} {code : Code} {n : Nat} {rs : List ResultVar} {args : List V} {post : V → List (Nat × Row) → Prop} (hfn : FnO c.P f args post) (hf : Is c.P f fn code n rs) (ho : o.op = .call { callee := .value fx, args := xs, argTypes := ts })
    (hfx : s.ev fx = some (.fn f [])) (hargs : xs.toList.map s.ev = args.map some) (hd : dok s o = true) (hfr : ∀ v H, post v H → H.all (fun x => s.clean x.1) = true) : StepM c o s (fun s' => ∃ v H, post v H ∧ s' = S.put ⟨s.n, s.T, H ++ s.H, s.K⟩ o.dst v) := by
  intro g a w hs K Q hK
  have hfx' : a.eval fx = .func (.func f) #[] ([] : List Value).toArray := by
    have h := hs.ev hfx
    generalize a.eval fx = u at h
    cases h with
    | fn _ _ cs hl _ =>
      obtain rfl : cs = [] := by cases cs with | nil => rfl | cons => simp at hl
      rfl
  have hx : VReps w (fun b => ¬ ¬ qt c s.H g b) g args (xs.toList.map a.eval) := by
    refine ⟨by simpa using (congrArg List.length hargs).symm, fun j u y hu hy => ?_⟩
    have h1 := congrArg (fun l => l[j]?) hargs
    simp only [List.getElem?_map, hu, Option.map_some] at h1 hy
    cases h2 : xs.toList[j]? with
    | none => rw [h2] at h1; cases h1
    | some p =>
      rw [h2] at h1 hy
      simp only [Option.map_some, Option.some.injEq] at h1 hy
      subst hy
      exact (hs.ev h1).mono Cells.rfl (fun b hb _ => not_not_intro hb) (fun r _ => rfl)
  unfold Oper.wp
  rw [exec_call (caps := []) hf ho hfx']
  simp only [Oper.upon, List.append_nil]
  refine (hfn w (fun b => ¬ qt c s.H g b) g _ ?_ hx).mono ?_
  · intro b hb
    rcases Classical.em (c.out b) with h | h
    · exact Nat.lt_of_lt_of_le (hs.low b h) hs.below.size
    · rcases Classical.em (∃ r row, fnd s.H r = some row ∧ row.nil = false ∧ (g r).1 = b) with ⟨r, row, h1, h2, rfl⟩ | h'
      · obtain ⟨arr, h3, _⟩ := hs.obj r row h1 h2
        exact (Array.getElem?_eq_some_iff.1 h3).1
      · exact absurd ⟨h, fun r row h1 h2 h3 => h' ⟨r, row, h1, h2, h3⟩⟩ hb
  · rintro e w' ⟨v, x, g', H, rfl, h1, hcl, hO, h3, h4⟩
    have hfresh : ∀ k row, (k, row) ∈ H → s.clean k = true := fun k row hk => List.all_eq_true.1 (hfr v H h1) _ hk
    classical
    let G : Nat → Nat × Nat := fun k => if (fnd H k).isSome then g' k else g k
    have hG1 : ∀ k row, fnd H k = some row → G k = g' k := fun k row hk => by simp [G, hk]
    have hmem : ∀ k row, (k, row) ∈ H → ∃ row', fnd H k = some row' := by
      intro k row hk
      have : ∀ (l : List (Nat × Row)), (k, row) ∈ l → ∃ row', fnd l k = some row' := by
        intro l
        induction l with
        | nil => intro h; cases h
        | cons y l ih =>
          intro h
          simp only [fnd]
          split
          · exact ⟨_, rfl⟩
          · rename_i hne
            rcases List.mem_cons.1 h with rfl | h
            · simp at hne
            · exact ih h
      exact this H hk
    have hG2 : ∀ k, (∃ row, (k, row) ∈ H) → G k = g' k := fun k ⟨row, hk⟩ => by obtain ⟨row', h⟩ := hmem k row hk; exact hG1 k row' h
    have hG3 : ∀ k row, fnd s.H k = some row → G k = g k := by
      intro k row hk
      have : fnd H k = none := by
        cases hh : fnd H k with
        | none => rfl
        | some row' => exact absurd rfl (S.clean_obj (hfresh k row' (fnd_mem hh)) hk).1
      simp [G, this]
    have hG4 : ∀ u : V, (∀ k row, (k, row) ∈ H → u.has k = false) → ∀ k, u.has k = true → G k = g k := by
      intro u hu k hk
      have : fnd H k = none := by
        cases hh : fnd H k with
        | none => rfl
        | some row' => have := hu k row' (fnd_mem hh); rw [hk] at this; cases this
      simp [G, this]
    have hfn : ∀ k row, fnd (H ++ s.H) k = some row → fnd H k = some row ∨ fnd H k = none ∧ fnd s.H k = some row := by
      intro k row hk
      have happ : ∀ (l l' : List (Nat × Row)) (i : Nat), fnd (l ++ l') i = match fnd l i with | some v => some v | none => fnd l' i := by
        intro l l' i
        induction l with
        | nil => simp [fnd]
        | cons y l ih => simp only [List.cons_append, fnd]; split; rfl; exact ih
      rw [happ] at hk
      cases hh : fnd H k with
      | some row' => rw [hh] at hk; exact .inl hk
      | none => rw [hh] at hk; exact .inr ⟨rfl, hk⟩
    have hlt : ∀ {b o}, w.heap[b]? = some o → b < w.heap.size := fun h => (Array.getElem?_eq_some_iff.1 h).1
    have hq1 : ∀ b, qt c s.H g b → b < w.heap.size → qt c (H ++ s.H) G b := by
      intro b hb hbl
      refine ⟨hb.1, fun k row hk hn => ?_⟩
      rcases hfn k row hk with h | ⟨_, h⟩
      · rw [hG1 k row h]
        have := hO.new k row h hn
        omega
      · rw [hG3 k row h]
        exact hb.2 k row h hn
    have hq2 : ∀ b, (¬ ¬ qt c s.H g b ∧ ∀ r row, fnd H r = some row → row.nil = false → (g' r).1 ≠ b) → b < w'.heap.size → qt c (H ++ s.H) G b := by
      intro b hb _
      have hb1 := Classical.not_not.1 hb.1
      refine ⟨hb1.1, fun k row hk hn => ?_⟩
      rcases hfn k row hk with h | ⟨_, h⟩
      · rw [hG1 k row h]
        exact hb.2 k row h hn
      · rw [hG3 k row h]
        exact hb1.2 k row h hn
    have hcells : Cells w w' (qt c s.H g) := ⟨h4.size, fun b o u _ h1 h2 => (h4.cell (p := ⟨b, o, none⟩) h1).trans h2, Below.maps h4⟩
    have hold : ∀ {u y}, (∀ k row, (k, row) ∈ H → V.has k u = false) → VRep w (qt c s.H g) g u y → VRep w' (qt c (H ++ s.H) G) G u y := fun hu hy => hy.mono hcells hq1 (hG4 _ hu)
    have hnew : ∀ {u y}, (∀ k, V.has k u = true → ∃ row, (k, row) ∈ H) → VRep w' (fun b => ¬ ¬ qt c s.H g b ∧ ∀ r row, fnd H r = some row → row.nil = false → (g' r).1 ≠ b) g' u y → VRep w' (qt c (H ++ s.H) G) G u y := fun hu hy =>
      hy.mono Cells.rfl hq2 (fun k hk => hG2 k (hu k hk))
    have hsim : Sim c G ⟨s.n, s.T, H ++ s.H, s.K⟩ a w' := by
      refine ⟨hs.size, hs.defers, ?_, ?_, ?_, ?_, ?_, ?_, hs.low, hs.below.trans (h4.mono hs.below.size)⟩
      · intro i u hu
        obtain ⟨y, a1, a2⟩ := hs.tmp i u hu
        exact ⟨y, a1, hold (fun k row hk => S.clean_tmp (hfresh k row hk) hu) a2⟩
      · intro k row hk hn
        rcases hfn k row hk with h | ⟨_, h⟩
        · exact hO.nul k row h hn
        · exact hs.nul k row h hn
      · intro k row hk hn
        rcases hfn k row hk with h | ⟨_, h⟩
        · obtain ⟨arr, a1, a2, a3⟩ := hO.obj k row h hn
          refine ⟨arr, by rw [hG1 k row h]; exact a1, by rw [hG1 k row h]; exact a2, fun j u hu => ?_⟩
          obtain ⟨y, a4, a5⟩ := a3 j u hu
          refine ⟨y, a4, hnew (fun k' hk' => ?_) a5⟩
          refine hO.closed k row k' h ?_
          cases hh : V.hasL k' row.cells with
          | true => rfl
          | false => have := V.hasL_false.1 hh u (List.mem_of_getElem? hu); rw [hk'] at this; cases this
        · obtain ⟨arr, a1, a2, a3⟩ := hs.obj k row h hn
          refine ⟨arr, by rw [hG3 k row h]; exact (h4.block _ (hlt a1)).trans a1, by rw [hG3 k row h]; exact a2, fun j u hu => ?_⟩
          obtain ⟨y, a4, a5⟩ := a3 j u hu
          exact ⟨y, a4, hold (fun k' row' hk' => (S.clean_obj (hfresh k' row' hk') h).2 u (List.mem_of_getElem? hu)) a5⟩
      · intro j u y a1 a2
        exact hold (fun k row hk => S.clean_keep (hfresh k row hk) a1) (hs.keep j u y a1 a2)
      · intro k k' row row' b1 n1 b2 n2 b3
        rcases hfn k row b1 with c1 | ⟨_, c1⟩ <;> rcases hfn k' row' b2 with c2 | ⟨_, c2⟩
        · rw [hG1 k row c1, hG1 k' row' c2] at b3
          exact hO.inj k k' row row' c1 n1 c2 n2 b3
        · rw [hG1 k row c1, hG3 k' row' c2] at b3
          have d1 := hO.new k row c1 n1
          obtain ⟨arr, d2, _⟩ := hs.obj k' row' c2 n2
          have := hlt d2
          omega
        · rw [hG3 k row c1, hG1 k' row' c2] at b3
          have d1 := hO.new k' row' c2 n2
          obtain ⟨arr, d2, _⟩ := hs.obj k row c1 n1
          have := hlt d2
          omega
        · rw [hG3 k row c1, hG3 k' row' c2] at b3
          exact hs.inj k k' row row' c1 n1 c2 n2 b3
      · intro k row b1 n1
        rcases hfn k row b1 with c1 | ⟨_, c1⟩
        · rw [hG1 k row c1]
          have := hO.new k row c1 n1
          have := hs.below.size
          omega
        · rw [hG3 k row c1]
          exact hs.base k row c1 n1
    refine hK G _ _ _ ⟨v, H, h1, rfl⟩ (hsim.put o.dst (dok_spec (s := s) hd) (hnew hcl h3)) h4
theorem AL.callo {Q : Exit → S → Prop} {ops : Array Oper} {rest : List Oper} {post : V → List (Nat × Row) → Prop} (hg : o.guard = none) (h : StepM c o s (fun s' => ∃ v H, post v H ∧ s' = S.put ⟨s.n, s.T, H ++ s.H, s.K⟩ o.dst v)) (hN : ∀ v H, post v H → AL c ops rest Q (S.put ⟨s.n, s.T, H ++ s.H, s.K⟩ o.dst v)) : AL c ops (o :: rest) Q s :=
  AL.stepM hg fun g a w hs K Q' hK => h g a w hs K Q' fun g' s' a' w' ⟨v, H, h1, e⟩ h3 h4 => hK g' s' a' w' (by subst e; exact hN v H h1) h3 h4
end
theorem FnO.mach {P : Program} {f : FuncId} {args : List V} {post : V → List (Nat × Row) → Prop} (m : Mach) (j : Nat) (hj : args[j]? = some (mV m)) (h : m.states.length ≤ 4398046511104 → (∀ x ∈ m.states, x.arcs.length ≤ 4398046511104) → FnO P f args post) : FnO P f args post := by
  intro w out g xs ho hx
  have hlt : j < xs.length := by rw [← hx.1]; exact (List.getElem?_eq_some_iff.1 hj).1
  have hv := hx.2 j _ _ hj (List.getElem?_eq_getElem hlt)
  generalize xs[j] = y at hv
  cases hv with
  | agg _ cs hl hh =>
    have hc : 1 < cs.length := by simp at hl; omega
    have h1 := hh 1 _ cs[1] rfl (List.getElem?_eq_getElem hc)
    cases h1 with
    | d _ _ h2 =>
      have h3 := h2.bound
      simp only [List.length_map] at h3
      refine h (by omega) (fun x hx => ?_) w out g xs ho hx
      obtain ⟨i, hi⟩ := List.getElem?_of_mem hx
      obtain ⟨z, h4⟩ := h2.row (i := i) (j := 1) (row := stD x) (by simp [hi]) rfl
      have h5 := h4.bound
      simp only [List.length_map] at h5
      omega
theorem flat_at {α : Type} {enc : α → List V} {sz : Nat} (hsz : ∀ x, (enc x).length = sz) : ∀ (W : List α) (k j : Nat) (x : α) (v : V), W[k]? = some x → (enc x)[j]? = some v → (W.flatMap enc)[k * sz + j]? = some v
  | [], k, j, x, v, h, _ => by simp at h
  | y :: W, 0, j, x, v, h, hv => by
    simp at h
    subst h
    rw [List.flatMap_cons, Nat.zero_mul, Nat.zero_add, List.getElem?_append_left (List.getElem?_eq_some_iff.1 hv).1, hv]
  | y :: W, k + 1, j, x, v, h, hv => by
    have := flat_at hsz W k j x v (by simpa using h) hv
    rw [List.flatMap_cons, List.getElem?_append_right (by rw [hsz, Nat.succ_mul]; omega), hsz, show (k + 1) * sz + j - sz = k * sz + j by rw [Nat.succ_mul]; omega, this]
theorem flat_set {α : Type} {enc : α → List V} {sz : Nat} (hsz : ∀ x, (enc x).length = sz) : ∀ (W : List α) (k j : Nat) (x x' : α) (v : V), W[k]? = some x → j < sz → enc x' = (enc x).set j v → (W.flatMap enc).set (k * sz + j) v = (W.set k x').flatMap enc
  | [], k, j, x, x', v, h, _, _ => by simp at h
  | y :: W, 0, j, x, x', v, h, hj, hx => by
    simp at h
    subst h
    rw [List.flatMap_cons, Nat.zero_mul, Nat.zero_add, List.set_append_left _ _ (by rw [hsz]; exact hj), List.set_cons_zero, List.flatMap_cons, hx]
  | y :: W, k + 1, j, x, x', v, h, hj, hx => by
    have := flat_set hsz W k j x x' v (by simpa using h) hj hx
    rw [List.flatMap_cons, List.set_append_right _ _ (by rw [hsz, Nat.succ_mul]; omega), hsz, show (k + 1) * sz + j - sz = k * sz + j by rw [Nat.succ_mul]; omega, this, List.set_cons_succ, List.flatMap_cons]
section
variable {c : Cx} {s : S} {o : Oper} {α : Type}
theorem rd_load_flat {t : TypeId} {d : TypeDesc} {x : Operand} {r k j sz : Nat} {row : Row} {W : List α} {enc : α → List V} {y : α} {v : V} (hu : c.P.underlying t = some d) (hd : isAggD d = false) (ho : o.op = .load t x) (hx : s.ev x = some (.ref r (k * sz + j))) (hr : fnd s.H r = some row) (hn : row.nil = false) (hc : row.cells = W.flatMap enc) (hsz : ∀ x, (enc x).length = sz) (hl : W[k]? = some y) (hv : (enc y)[j]? = some v) : RD c o s v :=
  rd_load_ref hu hd ho hx hr hn (by rw [hc]; exact flat_at hsz W k j y v hl hv)
theorem st_store_flat {t : TypeId} {bt : Nat} {z : Value} {x y : Operand} {r k j sz : Nat} {row : Row} {W : List α} {enc : α → List V} {y0 : α} {v : V} (x' : α) (hi : Inf c.P t 1 bt z) (ho : o.op = .store t x y) (hd : o.dst = none) (hx : s.ev x = some (.ref r (k * sz + j))) (hy : s.ev y = some v) (hr : fnd s.H r = some row) (hn : row.nil = false) (hok : v.one = true)
    (hc : row.cells = W.flatMap enc) (hsz : ∀ x, (enc x).length = sz) (hl : W[k]? = some y0) (hj : j < sz) (he : enc x' = (enc y0).set j v) : Step c o s (fun s' => s' = { s with H := (r, { row with cells := (W.set k x').flatMap enc }) :: s.H }) :=
  st_store (l := (W.set k x').flatMap enc) hi ho hd hx hy hr hn hok (by
    rw [hc]
    obtain ⟨u, h1⟩ : ∃ u, (enc y0)[j]? = some u := ⟨_, List.getElem?_eq_getElem (by rw [hsz]; exact hj)⟩
    exact (List.getElem?_eq_some_iff.1 (flat_at hsz W k j y0 _ hl h1)).1) (by rw [hc]; exact flat_set hsz W k j y0 x' v hl hj he)
theorem rp_nilCheck_ad {x : Operand} {row : List D} (ho : o.op = .nilCheck x) (hx : s.ev x = some (.ad row)) : RP c o s (.ad row) := fun g a w hs => by
  have h := hs.ev hx
  refine ⟨a.eval x, h, fun w' => ?_⟩
  generalize hy : a.eval x = y at h
  cases h
  simp [execOp, ho, hy]
end
end Go.Proofs.Ythlcginebeapdaa
