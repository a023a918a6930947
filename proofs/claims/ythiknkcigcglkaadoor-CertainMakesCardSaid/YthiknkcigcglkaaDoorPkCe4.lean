/- Part 4 of what the law CertainMakes rests on. -/
import Derived.Deep.Upon
import Derived.Scope
import Derived.Lib.LaidTab
import Derived.Lib.Builder
import Derived.Laws.Externs
import Derived.Laws.BytesArg
import Derived.Laws.BitsAllLaws
import Derived.Lib.AppendStr
import Derived.Test.YthiknkcigcglkaaDoorPkCe1
import Derived.Test.YthiknkcigcglkaaDoorPkCe2
import Derived.Test.YthiknkcigcglkaaDoorPkCe3
namespace Go.Proofs.YthiknkcigcglkaaDoor
open Go.RowKit
set_option linter.unusedSimpArgs false
set_option linter.unusedVariables false
set_option maxRecDepth 100000
set_option maxHeartbeats 8000000
/-- The objects H, new since N, among blocks that are quiet as q says. -/
structure Objs (w : World) (q : Nat → Prop) (N : Nat) (g : Nat → Nat × Nat) (H : List (Nat × Row)) : Prop where
  nul : ∀ r row, fnd H r = some row → row.nil = true → row.cells = []
  obj : ∀ r row, fnd H r = some row → row.nil = false → ∃ arr : Array Value, w.heap[(g r).1]? = some (.cells arr row.ty (0, 0)) ∧ (row.sz ≠ 0 → arr.size = (g r).2 * row.sz) ∧ ∀ (j : Nat) (v : V), row.cells[j]? = some v → ∃ x, arr[j]? = some x ∧ VRep w (fun b => q b ∧ ∀ r row, fnd H r = some row → row.nil = false → (g r).1 ≠ b) g v x
  inj : ∀ r r' row row', fnd H r = some row → row.nil = false → fnd H r' = some row' → row'.nil = false → (g r).1 = (g r').1 → r = r'
  new : ∀ r row, fnd H r = some row → row.nil = false → N ≤ (g r).1
  closed : ∀ r row k, fnd H r = some row → V.hasL k row.cells = true → ∃ row', (k, row') ∈ H
def FnO (P : Program) (f : FuncId) (args : List V) (post : V → List (Nat × Row) → Prop) : Prop := ∀ (w : World) (out : Nat → Prop) (g : Nat → Nat × Nat) (xs : List Value), (∀ b, out b → b < w.heap.size) → VReps w (fun b => ¬ out b) g args xs →
  Calls P f xs.toArray w fun e w' => ∃ v x g' H, e = .returned x ∧ post v H ∧ (∀ k, v.has k = true → ∃ row', (k, row') ∈ H) ∧ Objs w' (fun b => ¬ out b) w.heap.size g' H ∧ VRep w' (fun b => ¬ out b ∧ ∀ r row, fnd H r = some row → row.nil = false → (g' r).1 ≠ b) g' v x ∧ Below w.heap.size w w'
def QFO (P : Program) (rs : List ResultVar) (post : V → List (Nat × Row) → Prop) : Exit → S → Prop
  | .normal, s => ∃ vs H, resL P s rs vs ∧ LH s H ∧ post (tupOf vs) H ∧ (∀ k, (tupOf vs).has k = true → ∃ row', (k, row') ∈ H) ∧ ∀ r row k, fnd H r = some row → V.hasL k row.cells = true → ∃ row', (k, row') ∈ H
  | .ret, s => ∃ vs H, resL P s rs vs ∧ LH s H ∧ post (tupOf vs) H ∧ (∀ k, (tupOf vs).has k = true → ∃ row', (k, row') ∈ H) ∧ ∀ r row k, fnd H r = some row → V.hasL k row.cells = true → ∃ row', (k, row') ∈ H
  | _, _ => False
theorem FnO.intro {P : Program} {f : FuncId} {fn : Func} {code : Code} {n : Nat} {rs : List ResultVar} {args : List V} {post : V → List (Nat × Row) → Prop} (hf : Is P f fn code n rs) (hp : ∀ v ∈ args, v.pure) (hn : args.length ≤ n)
    (h : ∀ w0 out, AW ⟨P, w0, out, [], []⟩ code (QFO P rs post) ⟨n, enum 0 args, [], []⟩) : FnO P f args post := by
  intro w out g xs hout hx
  refine calls_of_wp hf.func hf.body ?_
  have hs : Sim ⟨P, w, out, [], []⟩ g ⟨n, enum 0 args, [], []⟩ { tmps := xs.toArray ++ Array.replicate (fn.ntmps - xs.toArray.size) undef, defers := [] } w := by
    refine ⟨?_, rfl, ?_, by simp [fnd], by simp [fnd], by simp, by simp [fnd], by simp [fnd], hout, Below.refl _ _⟩
    · simp [hf.ntmps, ← hx.1]; omega
    intro i v hv
    obtain ⟨_, h2⟩ := fnd_enum args 0 i v hv
    simp only [Nat.sub_zero] at h2
    have hi : i < xs.length := by rw [← hx.1]; exact (List.getElem?_eq_some_iff.1 h2).1
    refine ⟨xs[i], ?_, ?_⟩
    · rw [hf.ntmps]
      exact enter_get (List.getElem?_eq_getElem hi) (by rw [← hx.1]; exact hn)
    refine (hx.2 i v _ h2 (List.getElem?_eq_getElem hi)).mono Cells.rfl (fun b hb _ => ⟨hb, by simp [fnd]⟩) (fun r _ => rfl)
  refine wp_mono (h w out g _ w hs) fun e a' w' hq => ?_
  obtain ⟨g', s', h1, h2⟩ := hq
  have fin : (∃ vs H, resL P s' rs vs ∧ LH s' H ∧ post (tupOf vs) H ∧ (∀ k, (tupOf vs).has k = true → ∃ row', (k, row') ∈ H) ∧ ∀ r row k, fnd H r = some row → V.hasL k row.cells = true → ∃ row', (k, row') ∈ H) →
      a'.defers = [] ∧ ∃ v, (results fn a'.tmps).run P w' = .ok v w' ∧ ∃ v_1 x g' H, Ending.returned v = .returned x ∧ post v_1 H ∧ (∀ k, v_1.has k = true → ∃ row', (k, row') ∈ H) ∧ Objs w' (fun b => ¬ out b) w.heap.size g' H ∧ VRep w' (fun b => ¬ out b ∧ ∀ r row, fnd H r = some row → row.nil = false → (g' r).1 ≠ b) g' v_1 x ∧ Below w.heap.size w w' := by
    rintro ⟨vs, H, k1, k2, k3, k4, k5⟩
    obtain ⟨x, k6, k7⟩ := run_results (c := ⟨P, w, out, [], []⟩) hf.results h2 k1
    have hq : ∀ b, qt ⟨P, w, out, [], []⟩ s'.H g' b → b < w'.heap.size → ¬ out b ∧ ∀ r row, fnd H r = some row → row.nil = false → (g' r).1 ≠ b := fun b hb _ => ⟨hb.1, fun r row hr hn => hb.2 r row (k2.get r row hr) hn⟩
    have hm : ∀ {v x}, VRep w' (qt ⟨P, w, out, [], []⟩ s'.H g') g' v x → VRep w' (fun b => ¬ out b ∧ ∀ r row, fnd H r = some row → row.nil = false → (g' r).1 ≠ b) g' v x := fun hv => hv.mono Cells.rfl hq (fun _ _ => rfl)
    refine ⟨h2.defers, x, k7, _, x, g', H, rfl, k3, k4, ⟨fun r row hr hn => h2.nul r row (k2.get r row hr) hn, fun r row hr hn => ?_, fun r r' row row' a1 a2 a3 a4 a5 => h2.inj r r' row row' (k2.get r row a1) a2 (k2.get r' row' a3) a4 a5, fun r row hr hn => h2.base r row (k2.get r row hr) hn, k5⟩, hm k6, h2.below⟩
    obtain ⟨arr, a1, a2, a3⟩ := h2.obj r row (k2.get r row hr) hn
    refine ⟨arr, a1, a2, fun j v hv => ?_⟩
    obtain ⟨y, a4, a5⟩ := a3 j v hv
    exact ⟨y, a4, hm a5⟩
  cases e with
  | normal => exact fin h1
  | ret => exact fin h1
  | _ => exact h1.elim
section
variable {c : Cx} {s : S} {o : Oper}
/-- A call of a function whose result comes with objects. -/
theorem sm_callo {fx : Operand} {xs : Array Operand} {ts : Array TypeId} {f : FuncId} {fn : Func} {code : Code} {n : Nat} {rs : List ResultVar} {args : List V} {post : V → List (Nat × Row) → Prop} (hfn : FnO c.P f args post) (hf : Is c.P f fn code n rs) (ho : o.op = .call { callee := .value fx, args := xs, argTypes := ts })
    (hfx : s.ev fx = some (.fn f [])) (hargs : xs.toList.map s.ev = args.map some) (hd : dok s o = true) (hfr : ∀ v H, post v H → H.all (fun x => s.clean x.1) = true) : StepM c o s (fun s' => ∃ v H, post v H ∧ s' = S.put ⟨s.n, s.T, H ++ s.H, s.K⟩ o.dst v) := by
  intro g a w hs K Q hK
  have hfx' : a.eval fx = .func (.func f) #[] ([] : List Value).toArray := by
    have h := hs.ev hfx
    generalize a.eval fx = u at h
    cases h with
    | fn _ _ cs hl _ =>
      obtain rfl : cs = [] := by cases cs with | nil => rfl | cons => simp at hl
      rfl
  have hx : VReps w (fun b => ¬ ¬ qt c s.H g b) g args (xs.toList.map a.eval) := by
    refine ⟨by simpa using (congrArg List.length hargs).symm, fun j u y hu hy => ?_⟩
    have h1 := congrArg (fun l => l[j]?) hargs
    simp only [List.getElem?_map, hu, Option.map_some] at h1 hy
    cases h2 : xs.toList[j]? with
    | none => rw [h2] at h1; cases h1
    | some p =>
      rw [h2] at h1 hy
      simp only [Option.map_some, Option.some.injEq] at h1 hy
      subst hy
      exact (hs.ev h1).mono Cells.rfl (fun b hb _ => not_not_intro hb) (fun r _ => rfl)
  unfold Oper.wp
  rw [exec_call (caps := []) hf ho hfx']
  simp only [Oper.upon, List.append_nil]
  refine (hfn w (fun b => ¬ qt c s.H g b) g _ ?_ hx).mono ?_
  · intro b hb
    rcases Classical.em (c.out b) with h | h
    · exact Nat.lt_of_lt_of_le (hs.low b h) hs.below.size
    rcases Classical.em (∃ r row, fnd s.H r = some row ∧ row.nil = false ∧ (g r).1 = b) with ⟨r, row, h1, h2, rfl⟩ | h'
    · obtain ⟨arr, h3, _⟩ := hs.obj r row h1 h2
      exact (Array.getElem?_eq_some_iff.1 h3).1
    exact absurd ⟨h, fun r row h1 h2 h3 => h' ⟨r, row, h1, h2, h3⟩⟩ hb
  rintro e w' ⟨v, x, g', H, rfl, h1, hcl, hO, h3, h4⟩
  have hfresh : ∀ k row, (k, row) ∈ H → s.clean k = true := fun k row hk => List.all_eq_true.1 (hfr v H h1) _ hk
  classical
  let G : Nat → Nat × Nat := fun k => if (fnd H k).isSome then g' k else g k
  have hG1 : ∀ k row, fnd H k = some row → G k = g' k := fun k row hk => by simp [G, hk]
  have hmem : ∀ k row, (k, row) ∈ H → ∃ row', fnd H k = some row' := by
    intro k row hk
    have : ∀ (l : List (Nat × Row)), (k, row) ∈ l → ∃ row', fnd l k = some row' := by
      intro l
      induction l with
      | nil => intro h; cases h
      | cons y l ih =>
        intro h
        simp only [fnd]
        split
        · exact ⟨_, rfl⟩
        rename_i hne
        rcases List.mem_cons.1 h with rfl | h
        · simp at hne
        exact ih h
    exact this H hk
  have hG2 : ∀ k, (∃ row, (k, row) ∈ H) → G k = g' k := fun k ⟨row, hk⟩ => by obtain ⟨row', h⟩ := hmem k row hk; exact hG1 k row' h
  have hG3 : ∀ k row, fnd s.H k = some row → G k = g k := by
    intro k row hk
    have : fnd H k = none := by
      cases hh : fnd H k with
      | none => rfl
      | some row' => exact absurd rfl (S.clean_obj (hfresh k row' (fnd_mem hh)) hk).1
    simp [G, this]
  have hG4 : ∀ u : V, (∀ k row, (k, row) ∈ H → u.has k = false) → ∀ k, u.has k = true → G k = g k := by
    intro u hu k hk
    have : fnd H k = none := by
      cases hh : fnd H k with
      | none => rfl
      | some row' => have := hu k row' (fnd_mem hh); rw [hk] at this; cases this
    simp [G, this]
  have hfn : ∀ k row, fnd (H ++ s.H) k = some row → fnd H k = some row ∨ fnd H k = none ∧ fnd s.H k = some row := by
    intro k row hk
    have happ : ∀ (l l' : List (Nat × Row)) (i : Nat), fnd (l ++ l') i = match fnd l i with | some v => some v | none => fnd l' i := by
      intro l l' i
      induction l with
      | nil => simp [fnd]
      | cons y l ih => simp only [List.cons_append, fnd]; split; rfl; exact ih
    rw [happ] at hk
    cases hh : fnd H k with
    | some row' => rw [hh] at hk; exact .inl hk
    | none => rw [hh] at hk; exact .inr ⟨rfl, hk⟩
  have hlt : ∀ {b o}, w.heap[b]? = some o → b < w.heap.size := fun h => (Array.getElem?_eq_some_iff.1 h).1
  have hq1 : ∀ b, qt c s.H g b → b < w.heap.size → qt c (H ++ s.H) G b := by
    intro b hb hbl
    refine ⟨hb.1, fun k row hk hn => ?_⟩
    rcases hfn k row hk with h | ⟨_, h⟩
    · rw [hG1 k row h]
      have := hO.new k row h hn
      omega
    rw [hG3 k row h]
    exact hb.2 k row h hn
  have hq2 : ∀ b, (¬ ¬ qt c s.H g b ∧ ∀ r row, fnd H r = some row → row.nil = false → (g' r).1 ≠ b) → b < w'.heap.size → qt c (H ++ s.H) G b := by
    intro b hb _
    have hb1 := Classical.not_not.1 hb.1
    refine ⟨hb1.1, fun k row hk hn => ?_⟩
    rcases hfn k row hk with h | ⟨_, h⟩
    · rw [hG1 k row h]
      exact hb.2 k row h hn
    rw [hG3 k row h]
    exact hb1.2 k row h hn
  have hcells : Cells w w' (qt c s.H g) := ⟨h4.size, fun b o u _ h1 h2 => (h4.cell (p := ⟨b, o, none⟩) h1).trans h2, Below.maps h4⟩
  have hold : ∀ {u y}, (∀ k row, (k, row) ∈ H → V.has k u = false) → VRep w (qt c s.H g) g u y → VRep w' (qt c (H ++ s.H) G) G u y := fun hu hy => hy.mono hcells hq1 (hG4 _ hu)
  have hnew : ∀ {u y}, (∀ k, V.has k u = true → ∃ row, (k, row) ∈ H) → VRep w' (fun b => ¬ ¬ qt c s.H g b ∧ ∀ r row, fnd H r = some row → row.nil = false → (g' r).1 ≠ b) g' u y → VRep w' (qt c (H ++ s.H) G) G u y := fun hu hy =>
    hy.mono Cells.rfl hq2 (fun k hk => hG2 k (hu k hk))
  have hsim : Sim c G ⟨s.n, s.T, H ++ s.H, s.K⟩ a w' := by
    refine ⟨hs.size, hs.defers, ?_, ?_, ?_, ?_, ?_, ?_, hs.low, hs.below.trans (h4.mono hs.below.size)⟩
    · intro i u hu
      obtain ⟨y, a1, a2⟩ := hs.tmp i u hu
      exact ⟨y, a1, hold (fun k row hk => S.clean_tmp (hfresh k row hk) hu) a2⟩
    · intro k row hk hn
      rcases hfn k row hk with h | ⟨_, h⟩
      · exact hO.nul k row h hn
      exact hs.nul k row h hn
    · intro k row hk hn
      rcases hfn k row hk with h | ⟨_, h⟩
      · obtain ⟨arr, a1, a2, a3⟩ := hO.obj k row h hn
        refine ⟨arr, by rw [hG1 k row h]; exact a1, by rw [hG1 k row h]; exact a2, fun j u hu => ?_⟩
        obtain ⟨y, a4, a5⟩ := a3 j u hu
        refine ⟨y, a4, hnew (fun k' hk' => ?_) a5⟩
        refine hO.closed k row k' h ?_
        cases hh : V.hasL k' row.cells with
        | true => rfl
        | false => have := V.hasL_false.1 hh u (List.mem_of_getElem? hu); rw [hk'] at this; cases this
      obtain ⟨arr, a1, a2, a3⟩ := hs.obj k row h hn
      refine ⟨arr, by rw [hG3 k row h]; exact (h4.block _ (hlt a1)).trans a1, by rw [hG3 k row h]; exact a2, fun j u hu => ?_⟩
      obtain ⟨y, a4, a5⟩ := a3 j u hu
      exact ⟨y, a4, hold (fun k' row' hk' => (S.clean_obj (hfresh k' row' hk') h).2 u (List.mem_of_getElem? hu)) a5⟩
    · intro j u y a1 a2
      exact hold (fun k row hk => S.clean_keep (hfresh k row hk) a1) (hs.keep j u y a1 a2)
    · intro k k' row row' b1 n1 b2 n2 b3
      rcases hfn k row b1 with c1 | ⟨_, c1⟩ <;> rcases hfn k' row' b2 with c2 | ⟨_, c2⟩
      · rw [hG1 k row c1, hG1 k' row' c2] at b3
        exact hO.inj k k' row row' c1 n1 c2 n2 b3
      · rw [hG1 k row c1, hG3 k' row' c2] at b3
        have d1 := hO.new k row c1 n1
        obtain ⟨arr, d2, _⟩ := hs.obj k' row' c2 n2
        have := hlt d2
        omega
      · rw [hG3 k row c1, hG1 k' row' c2] at b3
        have d1 := hO.new k' row' c2 n2
        obtain ⟨arr, d2, _⟩ := hs.obj k row c1 n1
        have := hlt d2
        omega
      rw [hG3 k row c1, hG3 k' row' c2] at b3
      exact hs.inj k k' row row' c1 n1 c2 n2 b3
    intro k row b1 n1
    rcases hfn k row b1 with c1 | ⟨_, c1⟩
    · rw [hG1 k row c1]
      have := hO.new k row c1 n1
      have := hs.below.size
      omega
    rw [hG3 k row c1]
    exact hs.base k row c1 n1
  refine hK G _ _ _ ⟨v, H, h1, rfl⟩ (hsim.put o.dst (dok_spec (s := s) hd) (hnew hcl h3)) h4
theorem AL.callo {Q : Exit → S → Prop} {ops : Array Oper} {rest : List Oper} {post : V → List (Nat × Row) → Prop} (hg : o.guard = none) (h : StepM c o s (fun s' => ∃ v H, post v H ∧ s' = S.put ⟨s.n, s.T, H ++ s.H, s.K⟩ o.dst v)) (hN : ∀ v H, post v H → AL c ops rest Q (S.put ⟨s.n, s.T, H ++ s.H, s.K⟩ o.dst v)) : AL c ops (o :: rest) Q s :=
  AL.stepM hg fun g a w hs K Q' hK => h g a w hs K Q' fun g' s' a' w' ⟨v, H, h1, e⟩ h3 h4 => hK g' s' a' w' (by subst e; exact hN v H h1) h3 h4
end
theorem FnO.mach {P : Program} {f : FuncId} {args : List V} {post : V → List (Nat × Row) → Prop} (m : Mach) (j : Nat) (hj : args[j]? = some (mV m)) (h : m.states.length ≤ 4398046511104 → (∀ x ∈ m.states, x.arcs.length ≤ 4398046511104) → FnO P f args post) : FnO P f args post := by
  intro w out g xs ho hx
  have hlt : j < xs.length := by rw [← hx.1]; exact (List.getElem?_eq_some_iff.1 hj).1
  have hv := hx.2 j _ _ hj (List.getElem?_eq_getElem hlt)
  generalize xs[j] = y at hv
  cases hv with
  | agg _ cs hl hh =>
    have hc : 1 < cs.length := by simp at hl; omega
    have h1 := hh 1 _ cs[1] rfl (List.getElem?_eq_getElem hc)
    cases h1 with
    | d _ _ h2 =>
      have h3 := h2.bound
      simp only [List.length_map] at h3
      refine h zT13 (fun x hx => ?_) w out g xs ho hx
      obtain ⟨i, hi⟩ := List.getElem?_of_mem hx
      obtain ⟨z, h4⟩ := h2.row (i := i) (j := 1) (row := stD x) (by simp [hi]) rfl
      have h5 := h4.bound
      simp only [List.length_map] at h5
      omega
theorem flat_at {α : Type} {enc : α → List V} {sz : Nat} (hsz : ∀ x, (enc x).length = sz) : ∀ (W : List α) (k j : Nat) (x : α) (v : V), W[k]? = some x → (enc x)[j]? = some v → (W.flatMap enc)[k * sz + j]? = some v
  | [], k, j, x, v, h, _ => by simp at h
  | y :: W, 0, j, x, v, h, hv => by
    simp at h
    subst h
    rw [List.flatMap_cons, Nat.zero_mul, Nat.zero_add, List.getElem?_append_left (List.getElem?_eq_some_iff.1 hv).1, hv]
  | y :: W, k + 1, j, x, v, h, hv => by
    have := flat_at hsz W k j x v (by simpa using h) hv
    rw [List.flatMap_cons, List.getElem?_append_right (by rw [hsz, Nat.succ_mul]; omega), hsz, show (k + 1) * sz + j - sz = k * sz + j by rw [Nat.succ_mul]; omega, this]
section
variable {c : Cx} {s : S} {o : Oper} {α : Type}
theorem rd_load_flat {t : TypeId} {d : TypeDesc} {x : Operand} {r k j sz : Nat} {row : Row} {W : List α} {enc : α → List V} {y : α} {v : V} (hu : c.P.underlying t = some d) (hd : isAggD d = false) (ho : o.op = .load t x) (hx : s.ev x = some (.ref r (k * sz + j))) (hr : fnd s.H r = some row) (hn : row.nil = false) (hc : row.cells = W.flatMap enc) (hsz : ∀ x, (enc x).length = sz) (hl : W[k]? = some y) (hv : (enc y)[j]? = some v) : RD c o s v :=
  rd_load_ref hu hd ho hx hr hn (by rw [hc]; exact flat_at hsz W k j y v hl hv)
end
section
variable {c : Cx} {s : S} {o : Oper} {Q : Exit → S → Prop}
/-- An array of parts. -/
theorem rp_build_arr {t e : TypeId} {len esz ebt : Nat} {ez : Value} {ps : Array (Nat × Operand)} {sz bt : Nat} {z : Value} {vs : List (Nat × V)} {zs l : List V} (hu : c.P.underlying t = some (.array len e)) (hie : Inf c.P e esz ebt ez) (hi : Inf c.P t sz bt z) (ho : o.op = .build t ps)
    (hv : ps.toList.map (fun x => (x.1, s.ev x.2)) = vs.map (fun x => (x.1, some x.2))) (hzs : z.cells.toList.map (fun y => V.d (.p y)) = zs) (hf : fillV (fun i => some (i * esz, esz)) zs vs = some l) : RP c o s (.agg l) := fun g a w hs => by
  subst hzs
  obtain ⟨h1, h2⟩ := parts_rep hs hv
  obtain ⟨arr, h3, h4, h5⟩ := fill_rep (w := w) (q := qt c s.H g) (g := g) (place := fun i => some (i * esz, esz)) vs (ps.toList.map fun x => (x.1, a.eval x.2)) _ z.cells l hf h1 h2 zT14 (zero_rep z)
  refine ⟨.agg arr, ?_, fun w' => ?_⟩
  · have := VRep.agg (w := w) (q := qt c s.H g) (g := g) l arr.toList (by simpa using h4) (fun j u y hu hy => h5 j u y hu (by simpa using hy))
    simpa using this
  obtain ⟨i, hi1, hi2, hi3, hi4⟩ := hi.out
  obtain ⟨ie, he1, he2, he3, he4⟩ := hie.out
  have hb : c.P.built t (ps.map fun (i, x) => (i, a.eval x)).toList = some arr := by
    simp only [Program.built, hi1, hu, hi4, he1, he2]
    rw [← h3]
    simp
  simp only [execOp, ho, Sem.run_bind, run_build w' t _ arr hb, Result.andThen_ok]
  rfl
theorem AD2.callo {L : List Oper} {need : Nat → Bool} {l : List (Nat × Bool)} {i : Nat} {post : V → List (Nat × Row) → Prop} (hi : L[i]? = some o) (hg : o.guard = none) (h : StepM c o s (fun s' => ∃ v H, post v H ∧ s' = S.put ⟨s.n, s.T, H ++ s.H, s.K⟩ o.dst v)) (hN : ∀ v H, post v H → AD2 c L.toArray Q need l (S.put ⟨s.n, s.T, H ++ s.H, s.K⟩ o.dst v)) : AD2 c L.toArray Q need ((i, false) :: l) s :=
  AD2.stepM hi hg fun g a w hs K Q' hK => h g a w hs K Q' fun g' s' a' w' ⟨v, H, h1, e⟩ h3 h4 => hK g' s' a' w' (by subst e; exact hN v H h1) h3 h4
end
section
variable {c : Cx} {s : S} {o : Oper} {Q : Exit → S → Prop} {L : List Oper} {need : Nat → Bool} {l : List (Nat × Bool)} {i r : Nat}
/-- A store in place: only the block of object r has turned. -/
def StepS (c : Cx) (o : Oper) (s : S) (r : Nat) (row' : Row) : Prop := ∀ g a w, Sim c g s a w → ∀ (K : Act → World → Prop) (Q : Exit → Act → World → Prop),
  (∀ a' w', Sim c g { s with H := (r, row') :: s.H } a' w' → (w'.heap.size = w.heap.size ∧ ∀ k, k ≠ (g r).1 → w'.heap[k]? = w.heap[k]?) → K a' w') → o.wp c.P a w K Q
theorem AE2.rp1 {v : V} (hi : L[i]? = some o) (hg : o.guard = none) (hd : dok s o = true) (h : RP c o s v) (hN : AE2 c L.toArray Q need r l (s.put o.dst v)) : AE2 c L.toArray Q need r ((i, false) :: l) s := fun W e g a w hs he hb hl =>
  wpOp_of (by simpa using hi) hg (by
    obtain ⟨x, h1, h2⟩ := h g a w hs
    unfold Oper.wp
    rw [h2 w]
    exact ⟨fun _ => hb, hN W e g _ w (hs.put o.dst (dok_spec hd) h1) he.put hb hl⟩)
theorem AE2.nil (h : Q .normal s) : AE2 c L.toArray Q need r [] s := fun W e g a w hs _ _ _ => ⟨g, s, h, hs⟩
/-- The guard's own operation was passed over: so is this one. -/
def und (ops : Array Oper) (s : S) (j : Nat) : Prop := ∃ d, (ops[j]?).bind (·.dst) = some d ∧ fnd s.T d = some (.d (.p undef))
theorem und_spec {ops : Array Oper} {j : Nat} {g : Nat → Nat × Nat} {a : Act} {w : World} (h : und ops s j) (hs : Sim c g s a w) : yielded ops a.tmps j = none := by
  obtain ⟨d, h1, h2⟩ := h
  obtain ⟨x, h3, h4⟩ := hs.tmp d _ h2
  have := VRep.p_eq h4
  subst this
  simp [yielded, h1, h3, undef]
theorem AL.noV {ops : Array Oper} {rest : List Oper} {j : Nat} {b b' : Bool} (hg : o.guard = some (j, b)) (hy : yld ops s j = some b') (hb : (b' == b) = false) (hd : dok s o = true) (h : AL c ops rest Q (s.put o.dst (.d (.p undef)))) : AL c ops (o :: rest) Q s := fun g a w hs =>
  wpList_step fun K hK => by
    have hw : ¬ Region.wanted o (yielded ops a.tmps) = true := by
      simp only [Region.wanted, hg, yld_spec hy hs]
      simpa using hb
    rw [if_neg hw]
    exact hK _ _ (h g _ w (hs.put o.dst (dok_spec hd) (.d _ _ (.p _))))
theorem AL.noU {ops : Array Oper} {rest : List Oper} {j : Nat} {b : Bool} (hg : o.guard = some (j, b)) (hy : und ops s j) (hd : dok s o = true) (h : AL c ops rest Q (s.put o.dst (.d (.p undef)))) : AL c ops (o :: rest) Q s := fun g a w hs =>
  wpList_step fun K hK => by
    have hw : ¬ Region.wanted o (yielded ops a.tmps) = true := by
      simp only [Region.wanted, hg, und_spec hy hs]
      simp
    rw [if_neg hw]
    exact hK _ _ (h g _ w (hs.put o.dst (dok_spec hd) (.d _ _ (.p _))))
theorem AD1.noV {j : Nat} {b b' : Bool} (hi : L[i]? = some o) (hg : o.guard = some (j, b)) (hy : yld L.toArray s j = some b') (hb : (b' == b) = false) (hd : dok s o = true) (hp : noP Q) (hN : AD1 c L.toArray Q need l (s.put o.dst (.d (.p undef)))) : AD1 c L.toArray Q need ((i, true) :: l) s := fun g a w hs =>
  ⟨o, undef, by simpa using hi, .inr ⟨by simp only [Region.wanted, hg, yld_spec hy hs]; simpa using hb, rfl⟩, Below.refl _ _, QQ_noP hp _ _, hN g _ w (hs.put o.dst (dok_spec hd) (.d _ _ (.p _)))⟩
theorem AD1.noU {j : Nat} {b : Bool} (hi : L[i]? = some o) (hg : o.guard = some (j, b)) (hy : und L.toArray s j) (hd : dok s o = true) (hp : noP Q) (hN : AD1 c L.toArray Q need l (s.put o.dst (.d (.p undef)))) : AD1 c L.toArray Q need ((i, true) :: l) s := fun g a w hs =>
  ⟨o, undef, by simpa using hi, .inr ⟨by simp only [Region.wanted, hg, und_spec hy hs]; simp, rfl⟩, Below.refl _ _, QQ_noP hp _ _, hN g _ w (hs.put o.dst (dok_spec hd) (.d _ _ (.p _)))⟩
theorem run_equal_ptr {P : Program} {t e : TypeId} (hu : P.underlying t = some (.pointer e)) (a : Option Addr) (w : World) : (Op.equal t (.pointer a) (.pointer none)).run P w = .ok a.isNone w := by
  have h : ∀ d : Nat, (Op.equalIn (d + 1) t (.pointer a) (.pointer none)).run P w = .ok a.isNone w := fun d => by
    cases a <;> simp [Op.equalIn, run_underlying hu]
  exact h 9999
theorem rp_ptr {t t' e : TypeId} {op : BinOp} {x y : Operand} {v : V} {b : Bool} (hop : op = .eql ∨ op = .neq) (hu : c.P.underlying t = some (.pointer e)) (ho : o.op = .binOp op t x y t') (hx : s.ev x = some v) (hy : s.ev y = some (.d (.p (.pointer none)))) (hv : ∀ w q g z, VRep w q g v z → ∃ a, z = .pointer a ∧ a.isNone = b) : RP c o s (.b (if op = .eql then b else !b)) := fun g a w hs => by
  obtain ⟨p, hp1, hp2⟩ := hv _ _ _ _ (hs.ev hx)
  refine ⟨.bool (if op = .eql then b else !b), .d _ _ (.p _), fun w' => ?_⟩
  have h := run_equal_ptr hu p w'
  rcases hop with rfl | rfl <;> simp [execOp, ho, hp1, VRep.p_eq (hs.ev hy), eqGuard, binOp, h, hp2]
end
section
variable {c : Cx} {s : S} {o : Oper}
/-- One operation that changes nothing, nor where the objects lie. -/
def StepK (c : Cx) (o : Oper) (s : S) (N : S → Prop) : Prop := ∀ g a w, Sim c g s a w → ∀ (K : Act → World → Prop) (Q : Exit → Act → World → Prop),
  (∀ s' a' w', N s' → Sim c g s' a' w' → Below w.heap.size w w' → K a' w') → o.wp c.P a w K Q
theorem RD.stepK {v : V} {N : S → Prop} (h : RD c o s v) (hd : dok s o = true) (hN : N (s.put o.dst v)) : StepK c o s N := by
  intro g a w hs K Q hK
  obtain ⟨x, h1, h2⟩ := h g a w hs
  unfold Oper.wp
  rw [h2 w (Below.refl _ _)]
  exact hK _ _ _ hN (hs.put o.dst (dok_spec hd) h1) (Below.refl _ _)
/-- A read of object r, if that is old. -/
def RO (c : Cx) (o : Oper) (s : S) (r : Nat) (v : V) : Prop := ∀ W g a w, Sim c g s a w → Below W.heap.size W w → (g r).1 < W.heap.size → ∃ x, VRep w (qt c s.H g) g v x ∧ ∀ w', Below W.heap.size W w' → (execOp a.eval o).run c.P w' = .ok (.value x) w'
variable {Q : Exit → S → Prop} {L : List Oper} {ops : Array Oper} {need : Nat → Bool} {l : List (Nat × Bool)} {i : Nat} {O : List Nat}
def AO (O : List Nat) (c : Cx) (ops : Array Oper) (Q : Exit → S → Prop) (need : Nat → Bool) (l : List (Nat × Bool)) (s : S) : Prop := ∀ W g a w, Sim c g s a w → Below W.heap.size W w → (∀ r ∈ O, (g r).1 < W.heap.size) → ASeq c.P ops (QQ c Q) (Below W.heap.size W) need l a w
theorem AO.stepK (hi : L[i]? = some o) (hg : o.guard = none) (h : StepK c o s (AO O c L.toArray Q need l)) : AO O c L.toArray Q need ((i, false) :: l) s := fun W g a w hs hb hO =>
  wpOp_of (by simpa using hi) hg (h g a w hs _ _ fun s' a' w' h1 h2 h3 => ⟨fun _ => hb.trans (h3.mono hb.size), h1 W g a' w' h2 (hb.trans (h3.mono hb.size)) hO⟩)
theorem AO.stepKy {j : Nat} {b : Bool} (hi : L[i]? = some o) (hg : o.guard = some (j, b)) (hy : yld L.toArray s j = some b) (h : StepK c o s (AO O c L.toArray Q need l)) : AO O c L.toArray Q need ((i, false) :: l) s := fun W g a w hs hb hO =>
  wpOp_ofy (by simpa using hi) (by simp [Region.wanted, hg, yld_spec hy hs]) (h g a w hs _ _ fun s' a' w' h1 h2 h3 => ⟨fun _ => hb.trans (h3.mono hb.size), h1 W g a' w' h2 (hb.trans (h3.mono hb.size)) hO⟩)
theorem AO.call {post : V → Prop} (hi : L[i]? = some o) (hg : o.guard = none) (h : StepK c o s (fun s' => ∃ v, post v ∧ v.pure ∧ s' = s.put o.dst v)) (hN : ∀ v, post v → v.pure → AO O c L.toArray Q need l (s.put o.dst v)) : AO O c L.toArray Q need ((i, false) :: l) s :=
  AO.stepK hi hg fun g a w hs K Q' hK => h g a w hs K Q' fun s' a' w' ⟨v, h1, h2, e⟩ h3 h4 => hK s' a' w' (by subst e; exact hN v h1 h2) h3 h4
theorem AO.cally {post : V → Prop} {j : Nat} {b : Bool} (hi : L[i]? = some o) (hg : o.guard = some (j, b)) (hy : yld L.toArray s j = some b) (h : StepK c o s (fun s' => ∃ v, post v ∧ v.pure ∧ s' = s.put o.dst v)) (hN : ∀ v, post v → v.pure → AO O c L.toArray Q need l (s.put o.dst v)) : AO O c L.toArray Q need ((i, false) :: l) s :=
  AO.stepKy hi hg hy fun g a w hs K Q' hK => h g a w hs K Q' fun s' a' w' ⟨v, h1, h2, e⟩ h3 h4 => hK s' a' w' (by subst e; exact hN v h1 h2) h3 h4
theorem AO.rd1 {v : V} (hi : L[i]? = some o) (hg : o.guard = none) (hd : dok s o = true) (h : RD c o s v) (hN : AO O c L.toArray Q need l (s.put o.dst v)) : AO O c L.toArray Q need ((i, false) :: l) s := AO.stepK hi hg (h.stepK hd hN)
theorem AO.rp1 {v : V} (hi : L[i]? = some o) (hg : o.guard = none) (hd : dok s o = true) (h : RP c o s v) (hN : AO O c L.toArray Q need l (s.put o.dst v)) : AO O c L.toArray Q need ((i, false) :: l) s := AO.rd1 hi hg hd h.rd hN
theorem AO.rd1y {v : V} {j : Nat} {b : Bool} (hi : L[i]? = some o) (hg : o.guard = some (j, b)) (hy : yld L.toArray s j = some b) (hd : dok s o = true) (h : RD c o s v) (hN : AO O c L.toArray Q need l (s.put o.dst v)) : AO O c L.toArray Q need ((i, false) :: l) s := AO.stepKy hi hg hy (h.stepK hd hN)
theorem AO.rp1y {v : V} {j : Nat} {b : Bool} (hi : L[i]? = some o) (hg : o.guard = some (j, b)) (hy : yld L.toArray s j = some b) (hd : dok s o = true) (h : RP c o s v) (hN : AO O c L.toArray Q need l (s.put o.dst v)) : AO O c L.toArray Q need ((i, false) :: l) s := AO.rd1y hi hg hy hd h.rd hN
theorem AO.rp {v : V} (hi : L[i]? = some o) (hg : o.guard = none) (hd : dok s o = true) (hp : noP Q) (h : RP c o s v) (hN : AO O c L.toArray Q need l (s.put o.dst v)) : AO O c L.toArray Q need ((i, true) :: l) s := fun W g a w hs hb hO => by
  obtain ⟨x, h1, h2⟩ := h g a w hs
  exact ⟨o, x, by simpa using hi, .inl ⟨by simp [Region.wanted, hg], fun w' _ => h2 w'⟩, hb, QQ_noP hp _ _, hN W g _ w (hs.put o.dst (dok_spec hd) h1) hb hO⟩
theorem AO.rpy {v : V} {j : Nat} {b : Bool} (hi : L[i]? = some o) (hg : o.guard = some (j, b)) (hy : yld L.toArray s j = some b) (hd : dok s o = true) (hp : noP Q) (h : RP c o s v) (hN : AO O c L.toArray Q need l (s.put o.dst v)) : AO O c L.toArray Q need ((i, true) :: l) s := fun W g a w hs hb hO => by
  obtain ⟨x, h1, h2⟩ := h g a w hs
  exact ⟨o, x, by simpa using hi, .inl ⟨by simp [Region.wanted, hg, yld_spec hy hs], fun w' _ => h2 w'⟩, hb, QQ_noP hp _ _, hN W g _ w (hs.put o.dst (dok_spec hd) h1) hb hO⟩
theorem AO.rd {v : V} {r : Nat} (hi : L[i]? = some o) (hg : o.guard = none) (hd : dok s o = true) (hp : noP Q) (h : RO c o s r v) (hr : r ∈ O) (hN : AO O c L.toArray Q need l (s.put o.dst v)) : AO O c L.toArray Q need ((i, true) :: l) s := fun W g a w hs hb hO => by
  obtain ⟨x, h1, h2⟩ := h W g a w hs hb (hO r hr)
  exact ⟨o, x, by simpa using hi, .inl ⟨by simp [Region.wanted, hg], h2⟩, hb, QQ_noP hp _ _, hN W g _ w (hs.put o.dst (dok_spec hd) h1) hb hO⟩
theorem AO.rdy {v : V} {r : Nat} {j : Nat} {b : Bool} (hi : L[i]? = some o) (hg : o.guard = some (j, b)) (hy : yld L.toArray s j = some b) (hd : dok s o = true) (hp : noP Q) (h : RO c o s r v) (hr : r ∈ O) (hN : AO O c L.toArray Q need l (s.put o.dst v)) : AO O c L.toArray Q need ((i, true) :: l) s := fun W g a w hs hb hO => by
  obtain ⟨x, h1, h2⟩ := h W g a w hs hb (hO r hr)
  exact ⟨o, x, by simpa using hi, .inl ⟨by simp [Region.wanted, hg, yld_spec hy hs], h2⟩, hb, QQ_noP hp _ _, hN W g _ w (hs.put o.dst (dok_spec hd) h1) hb hO⟩
theorem AO.nil (h : Q .normal s) : AO O c L.toArray Q need [] s := fun W g a w hs _ _ => ⟨g, s, h, hs⟩
/-- An operation that is not wanted. -/
theorem AO.skipT (hi : L[i]? = some o) (hw : ∀ g a w, Sim c g s a w → Region.wanted o (yielded L.toArray a.tmps) = false) (hd : dok s o = true) (hp : noP Q) (hN : AO O c L.toArray Q need l (s.put o.dst (.d (.p undef)))) : AO O c L.toArray Q need ((i, true) :: l) s := fun W g a w hs hb hO =>
  ⟨o, undef, by simpa using hi, .inr ⟨hw g a w hs, rfl⟩, hb, QQ_noP hp _ _, hN W g _ w (hs.put o.dst (dok_spec hd) (.d _ _ (.p _))) hb hO⟩
theorem AO.skipF (hi : L[i]? = some o) (hw : ∀ g a w, Sim c g s a w → Region.wanted o (yielded L.toArray a.tmps) = false) (hd : dok s o = true) (hN : AO O c L.toArray Q need l (s.put o.dst (.d (.p undef)))) : AO O c L.toArray Q need ((i, false) :: l) s := fun W g a w hs hb hO => by
  have hw' : ¬ Region.wanted o (yielded L.toArray a.tmps) = true := by rw [hw g a w hs]; simp
  show wpOp c.P L.toArray (QQ c Q) i _ a w
  unfold wpOp
  simp only [List.getElem?_toArray, hi]
  rw [if_neg hw']
  exact ⟨fun _ => hb, hN W g _ w (hs.put o.dst (dok_spec hd) (.d _ _ (.p _))) hb hO⟩
theorem not_wanted {j : Nat} {b b' : Bool} (hg : o.guard = some (j, b)) (hy : yld L.toArray s j = some b') (hb' : (b' == b) = false) : ∀ g a w, Sim c g s a w → Region.wanted o (yielded L.toArray a.tmps) = false := fun g a w hs => by
  simp only [Region.wanted, hg, yld_spec hy hs]; simpa using hb'
theorem not_wantedU {j : Nat} {b : Bool} (hg : o.guard = some (j, b)) (hy : und L.toArray s j) : ∀ g a w, Sim c g s a w → Region.wanted o (yielded L.toArray a.tmps) = false := fun g a w hs => by
  simp only [Region.wanted, hg, und_spec hy hs]; simp
theorem AO.noV {j : Nat} {b b' : Bool} (hi : L[i]? = some o) (hg : o.guard = some (j, b)) (hy : yld L.toArray s j = some b') (hb' : (b' == b) = false) (hd : dok s o = true) (hp : noP Q) (hN : AO O c L.toArray Q need l (s.put o.dst (.d (.p undef)))) : AO O c L.toArray Q need ((i, true) :: l) s := AO.skipT hi (not_wanted hg hy hb') hd hp hN
theorem AO.noU {j : Nat} {b : Bool} (hi : L[i]? = some o) (hg : o.guard = some (j, b)) (hy : und L.toArray s j) (hd : dok s o = true) (hp : noP Q) (hN : AO O c L.toArray Q need l (s.put o.dst (.d (.p undef)))) : AO O c L.toArray Q need ((i, true) :: l) s := AO.skipT hi (not_wantedU hg hy) hd hp hN
theorem AO.noV1 {j : Nat} {b b' : Bool} (hi : L[i]? = some o) (hg : o.guard = some (j, b)) (hy : yld L.toArray s j = some b') (hb' : (b' == b) = false) (hd : dok s o = true) (hN : AO O c L.toArray Q need l (s.put o.dst (.d (.p undef)))) : AO O c L.toArray Q need ((i, false) :: l) s := AO.skipF hi (not_wanted hg hy hb') hd hN
end
section
variable {P : Program} {ops : Array Oper} {Q : Exit → Act → World → Prop} {md : Region.Mode} {T : World → Prop} {need : Nat → Bool}
def ASeq2 (P : Program) (ops : Array Oper) (Q : Exit → Act → World → Prop) (T : World → Prop) (need : Nat → Bool) (r1 r2 : List (Nat × Bool)) : List Nat → Act → World → Prop
  | [], a, w => ASeq P ops Q T need r1 a w ∧ ASeq P ops Q T need r2 a w
  | i :: r, a, w => ∃ oi x, ops[i]? = some oi ∧ YieldsIf P ops T oi x a ∧ T w ∧ (∀ c a w, Q (.panic c) (a.put oi.dst x) w → Q (.panic c) a w) ∧ ASeq2 P ops Q T need r1 r2 r (a.put oi.dst x) w
end
section
variable {c : Cx} {s : S} {Q : Exit → S → Prop} {ops : Array Oper} {L : List Oper} {need : Nat → Bool} {r1 r2 : List (Nat × Bool)} {l : List Nat} {i : Nat} {o : Oper}
theorem Less.refl (s : S) : Less s s := ⟨rfl, fun i v h => ⟨v, h, .refl _⟩, fun r row h => ⟨row, h, rfl, rfl, rfl, fun j v hv => ⟨v, hv, .refl _⟩⟩, fun j v h => ⟨v, h, .refl _⟩⟩
def AB1 (c : Cx) (ops : Array Oper) (Q : Exit → S → Prop) (need : Nat → Bool) (r1 r2 : List (Nat × Bool)) (l : List Nat) (s : S) : Prop := ∀ g a w, Sim c g s a w → ASeq2 c.P ops (QQ c Q) (Below w.heap.size w) need r1 r2 l a w
theorem AB1.rd {v : V} (hi : L[i]? = some o) (hg : o.guard = none) (hd : dok s o = true) (hp : noP Q) (h : RD c o s v) (hN : AB1 c L.toArray Q need r1 r2 l (s.put o.dst v)) : AB1 c L.toArray Q need r1 r2 (i :: l) s := fun g a w hs => by
  obtain ⟨x, h1, h2⟩ := h g a w hs
  exact ⟨o, x, by simpa using hi, .inl ⟨by simp [Region.wanted, hg], h2⟩, Below.refl _ _, QQ_noP hp _ _, hN g _ w (hs.put o.dst (dok_spec hd) h1)⟩
theorem AB1.rp {v : V} (hi : L[i]? = some o) (hg : o.guard = none) (hd : dok s o = true) (hp : noP Q) (h : RP c o s v) (hN : AB1 c L.toArray Q need r1 r2 l (s.put o.dst v)) : AB1 c L.toArray Q need r1 r2 (i :: l) s := AB1.rd hi hg hd hp h.rd hN
theorem AB1.rdy {v : V} {j : Nat} {b : Bool} (hi : L[i]? = some o) (hg : o.guard = some (j, b)) (hy : yld L.toArray s j = some b) (hd : dok s o = true) (hp : noP Q) (h : RD c o s v) (hN : AB1 c L.toArray Q need r1 r2 l (s.put o.dst v)) : AB1 c L.toArray Q need r1 r2 (i :: l) s := fun g a w hs => by
  obtain ⟨x, h1, h2⟩ := h g a w hs
  exact ⟨o, x, by simpa using hi, .inl ⟨by simp [Region.wanted, hg, yld_spec hy hs], h2⟩, Below.refl _ _, QQ_noP hp _ _, hN g _ w (hs.put o.dst (dok_spec hd) h1)⟩
theorem AB1.rpy {v : V} {j : Nat} {b : Bool} (hi : L[i]? = some o) (hg : o.guard = some (j, b)) (hy : yld L.toArray s j = some b) (hd : dok s o = true) (hp : noP Q) (h : RP c o s v) (hN : AB1 c L.toArray Q need r1 r2 l (s.put o.dst v)) : AB1 c L.toArray Q need r1 r2 (i :: l) s := AB1.rdy hi hg hy hd hp h.rd hN
theorem AB1.no {j : Nat} {b b' : Bool} (hi : L[i]? = some o) (hg : o.guard = some (j, b)) (hy : yld L.toArray s j = some b') (hb : (b' == b) = false) (hd : dok s o = true) (hp : noP Q) (hN : AB1 c L.toArray Q need r1 r2 l (s.put o.dst .junk)) : AB1 c L.toArray Q need r1 r2 (i :: l) s := fun g a w hs =>
  ⟨o, undef, by simpa using hi, .inr ⟨by simp only [Region.wanted, hg, yld_spec hy hs]; simpa using hb, rfl⟩, Below.refl _ _, QQ_noP hp _ _, hN g _ w (hs.put o.dst (dok_spec hd) (.junk _))⟩
theorem AB1.nil (h1 : AD2 c L.toArray Q need r1 s) (h2 : AD2 c L.toArray Q need r2 s) : AB1 c L.toArray Q need r1 r2 [] s := fun g a w hs => ⟨h1 w g a w hs (Below.refl _ _), h2 w g a w hs (Below.refl _ _)⟩
/-- A new object r has been made since the region began: what is written to it harms nobody. -/
def AQ (r : Nat) (c : Cx) (ops : Array Oper) (Q : Exit → S → Prop) (need : Nat → Bool) (l : List (Nat × Bool)) (s : S) : Prop := ∀ W g a w, Sim c g s a w → Below W.heap.size W w → W.heap.size ≤ (g r).1 → ASeq c.P ops (QQ c Q) (Below W.heap.size W) need l a w
variable {l : List (Nat × Bool)} {r : Nat}
theorem AD2.new {r : Nat} {X : S} (hi : L[i]? = some o) (hg : o.guard = none) (h : StepG c o s r (fun s' => s' = X)) (hN : AQ r c L.toArray Q need l X) : AD2 c L.toArray Q need ((i, false) :: l) s := fun W g a w hs hb =>
  wpOp_of (by simpa using hi) hg (h g a w hs _ _ fun g' s' a' w' h1 h2 h3 _ h5 => by
    subst h1
    have hb' := hb.trans (h3.mono hb.size)
    exact ⟨fun _ => hb', hN W g' a' w' h2 hb' (Nat.le_trans hb.size h5)⟩)
theorem AQ.stepK (hi : L[i]? = some o) (hg : o.guard = none) (h : StepK c o s (AQ r c L.toArray Q need l)) : AQ r c L.toArray Q need ((i, false) :: l) s := fun W g a w hs hb hr =>
  wpOp_of (by simpa using hi) hg (h g a w hs _ _ fun s' a' w' h1 h2 h3 => ⟨fun _ => hb.trans (h3.mono hb.size), h1 W g a' w' h2 (hb.trans (h3.mono hb.size)) hr⟩)
theorem AQ.stepKy {j : Nat} {b : Bool} (hi : L[i]? = some o) (hg : o.guard = some (j, b)) (hy : yld L.toArray s j = some b) (h : StepK c o s (AQ r c L.toArray Q need l)) : AQ r c L.toArray Q need ((i, false) :: l) s := fun W g a w hs hb hr =>
  wpOp_ofy (by simpa using hi) (by simp [Region.wanted, hg, yld_spec hy hs]) (h g a w hs _ _ fun s' a' w' h1 h2 h3 => ⟨fun _ => hb.trans (h3.mono hb.size), h1 W g a' w' h2 (hb.trans (h3.mono hb.size)) hr⟩)
theorem AQ.call {post : V → Prop} (hi : L[i]? = some o) (hg : o.guard = none) (h : StepK c o s (fun s' => ∃ v, post v ∧ v.pure ∧ s' = s.put o.dst v)) (hN : ∀ v, post v → v.pure → AQ r c L.toArray Q need l (s.put o.dst v)) : AQ r c L.toArray Q need ((i, false) :: l) s :=
  AQ.stepK hi hg fun g a w hs K Q' hK => h g a w hs K Q' fun s' a' w' ⟨v, h1, h2, e⟩ h3 h4 => hK s' a' w' (by subst e; exact hN v h1 h2) h3 h4
theorem AQ.rd1 {v : V} (hi : L[i]? = some o) (hg : o.guard = none) (hd : dok s o = true) (h : RD c o s v) (hN : AQ r c L.toArray Q need l (s.put o.dst v)) : AQ r c L.toArray Q need ((i, false) :: l) s := AQ.stepK hi hg (h.stepK hd hN)
theorem AQ.rp1 {v : V} (hi : L[i]? = some o) (hg : o.guard = none) (hd : dok s o = true) (h : RP c o s v) (hN : AQ r c L.toArray Q need l (s.put o.dst v)) : AQ r c L.toArray Q need ((i, false) :: l) s := AQ.rd1 hi hg hd h.rd hN
theorem AQ.rp {v : V} (hi : L[i]? = some o) (hg : o.guard = none) (hd : dok s o = true) (hp : noP Q) (h : RP c o s v) (hN : AQ r c L.toArray Q need l (s.put o.dst v)) : AQ r c L.toArray Q need ((i, true) :: l) s := fun W g a w hs hb hr => by
  obtain ⟨x, h1, h2⟩ := h g a w hs
  exact ⟨o, x, by simpa using hi, .inl ⟨by simp [Region.wanted, hg], fun w' _ => h2 w'⟩, hb, QQ_noP hp _ _, hN W g _ w (hs.put o.dst (dok_spec hd) h1) hb hr⟩
theorem AQ.st {row row' : Row} (hi : L[i]? = some o) (hg : o.guard = none) (h : StepS c o s r row' ∧ row.nil = false ∧ fnd s.H r = some row) (hN : AQ r c L.toArray Q need l { s with H := (r, row') :: s.H }) : AQ r c L.toArray Q need ((i, false) :: l) s := fun W g a w hs hb hr =>
  wpOp_of (by simpa using hi) hg (h.1 g a w hs _ _ fun a' w' h2 h3 => by
    have hb' : Below W.heap.size W w' := ⟨by rw [← hb.os, h2.below.os, hs.below.os], by rw [← hb.tape, h2.below.tape, hs.below.tape], by rw [← hb.output, h2.below.output, hs.below.output], by rw [h3.1]; exact hb.size, fun k hk => (h3.2 k zT13).trans (hb.block k hk)⟩
    exact ⟨fun _ => hb', hN W g a' w' h2 hb' hr⟩)
theorem AQ.nil (h : Q .normal s) : AQ r c L.toArray Q need [] s := fun W g a w hs _ _ => ⟨g, s, h, hs⟩
theorem AD2.noV1 {j : Nat} {b b' : Bool} (hi : L[i]? = some o) (hg : o.guard = some (j, b)) (hy : yld L.toArray s j = some b') (hb' : (b' == b) = false) (hd : dok s o = true) (hN : AD2 c L.toArray Q need l (s.put o.dst (.d (.p undef)))) : AD2 c L.toArray Q need ((i, false) :: l) s := fun W g a w hs hb => by
  have hw' : ¬ Region.wanted o (yielded L.toArray a.tmps) = true := by rw [not_wanted hg hy hb' g a w hs]; simp
  show wpOp c.P L.toArray (QQ c Q) i _ a w
  unfold wpOp
  simp only [List.getElem?_toArray, hi]
  rw [if_neg hw']
  exact ⟨fun _ => hb, hN W g _ w (hs.put o.dst (dok_spec hd) (.d _ _ (.p _))) hb⟩
end
theorem DRep.of_sl {α : Type} {w : World} {q : Nat → Prop} {sz bt : Nat} {cells : α → List Value} {enc : α → List D} {v : Value} {l : List α} (h : SlAt w sz bt cells v l) (hq : ∀ b, q b) (hsz : 0 < sz) (he : ∀ x, (enc x).length ≤ sz) (hc : ∀ x, (cells x).length = sz)
    (hr : ∀ x ∈ l, ∀ (j : Nat) (u : D) (y : Value), (enc x)[j]? = some u → (cells x)[j]? = some y → DRep w q u y) : DRep w q (.sl sz bt (l.map enc)) v := by
  obtain ⟨a, cap, rfl, hl, hn, hat⟩ := h
  by_cases h0 : l = []
  · subst h0
    have := DRep.sl (w := w) (q := q) sz bt [] a cap 0 0 (fun _ _ => undef) (Nat.zero_le _) (fun h => absurd rfl h) zT14 zT14 zT14
    simpa using this
  have hpos : 0 < l.length := by cases l with | nil => exact absurd rfl h0 | cons => simp
  obtain ⟨b, o, x0, rfl, _, hc0⟩ := hat 0 hpos
  have hat' : ∀ i, i < l.length → ∀ x, l[i]? = some x → ∀ j, j < sz → w.cell? ⟨b, o + i * sz + j, none⟩ = (cells x)[j]? := by
    intro i hi x hx j hj
    obtain ⟨b', o', x', hb, hx', hcell⟩ := hat i hi
    simp only [Option.some.injEq, Addr.mk.injEq, and_true] at hb
    obtain ⟨rfl, rfl⟩ := hb
    rw [hx] at hx'
    simp only [Option.some.injEq] at hx'
    subst hx'
    exact hcell j hj
  have hb : b < w.heap.size := by
    have h1 := hat' 0 hpos l[0] (List.getElem?_eq_getElem hpos) 0 hsz
    rw [List.getElem?_eq_getElem (by rw [hc]; omega)] at h1
    exact World.block_lt_of_cell? w _ h1
  have key := DRep.sl (w := w) (q := q) sz bt (l.map enc) (some ⟨b, o, none⟩) cap b o (fun i j => ((l[i]?.map cells).getD []).getD j undef) (by simpa using hn.2) (fun _ => ⟨rfl, hq b, hb⟩) (by simpa using hl) (by
    intro i j row u hi hj
    rw [List.getElem?_map] at hi
    cases hx : l[i]? with
    | none => rw [hx] at hi; cases hi
    | some x =>
      rw [hx] at hi
      simp only [Option.map_some, Option.some.injEq] at hi
      subst hi
      have hj' : j < sz := Nat.lt_of_lt_of_le (List.getElem?_eq_some_iff.1 hj).1 (he x)
      rw [hat' i (List.getElem?_eq_some_iff.1 hx).1 x hx j hj']
      rw [List.getElem?_eq_getElem (by rw [hc]; exact hj')]
      simp [List.getD_eq_getElem?_getD, List.getElem?_eq_getElem (show j < (cells x).length by rw [hc]; exact hj')]) (by
    intro i j row u hi hj
    rw [List.getElem?_map] at hi
    cases hx : l[i]? with
    | none => rw [hx] at hi; cases hi
    | some x =>
      rw [hx] at hi
      simp only [Option.map_some, Option.some.injEq] at hi
      subst hi
      have hj' : j < sz := Nat.lt_of_lt_of_le (List.getElem?_eq_some_iff.1 hj).1 (he x)
      refine hr x (List.mem_of_getElem? hx) j u _ hj ?_
      simp [List.getD_eq_getElem?_getD, List.getElem?_eq_getElem (show j < (cells x).length by rw [hc]; exact hj')])
  simpa using key
theorem rep_arcs {w : World} {q : Nat → Prop} {v : Value} {l : List Ar} (h : ArcsAt w v l) (hq : ∀ b, q b) : DRep w q (arsD l) v :=
  DRep.of_sl h hq zT13 (fun _ => by simp) arCells_len (fun x _ j u y hu hy => by
    match j, hu, hy with
    | 0, hu, hy => simp [arCells] at hu hy; subst hu hy; exact .p _
    | 1, hu, hy => simp [arCells] at hu hy; subst hu hy; exact .p _
    | 2, hu, hy => simp [arCells] at hu hy; subst hu hy; exact .p _
    | 3, hu, hy => simp [arCells] at hu hy; subst hu hy; exact .p _
    | n + 4, hu, hy => simp at hu)
theorem rep_mach {w : World} {q : Nat → Prop} {g : Nat → Nat × Nat} {v : Value} {m : Mach} (h : MachAt w v m) (hq : ∀ b, q b) : VRep w q g (mV m) v := by
  obtain ⟨sv, rfl, ts, hts, hs, hall⟩ := h
  have h2 : DRep w q (stsD m.states) sv := by
    have := DRep.of_sl (enc := fun x : Int × Value × List Ar => [D.p (.int .i64 x.1), arsD x.2.2]) hs hq zT13 (fun _ => by simp) stCells_len (fun x hx j u y hu hy => by
      match j, hu, hy with
      | 0, hu, hy => simp [stCells] at hu hy; subst hu hy; exact .p _
      | 1, hu, hy => simp [stCells] at hu hy; subst hu hy; exact rep_arcs (hall x hx) hq
      | n + 2, hu, hy => simp at hu)
    rw [hts]
    simpa [stsD, stD, List.map_map, Function.comp_def] using this
  refine .agg [.i m.start, .d (stsD m.states)] [.int .i64 m.start, sv] rfl fun j u y hu hy => ?_
  match j, hu, hy with
  | 0, hu, hy => simp at hu hy; subst hu hy; exact .d _ _ (.p _)
  | 1, hu, hy => simp at hu hy; subst hu hy; exact .d _ _ h2
  | n + 2, hu, hy => simp at hu
theorem reps_nil {w : World} {q : Nat → Prop} {g : Nat → Nat × Nat} : VReps w q g [] [] := ⟨rfl, by simp⟩
theorem reps_cons {w : World} {q : Nat → Prop} {g : Nat → Nat × Nat} {v : V} {x : Value} {vs : List V} {xs : List Value} (h : VRep w q g v x) (hs : VReps w q g vs xs) : VReps w q g (v :: vs) (x :: xs) :=
  ⟨by simp [hs.1], fun j u y hu hy => by
    cases j with
    | zero => simp at hu hy; subst hu hy; exact h
    | succ j => exact hs.2 j u y (by simpa using hu) (by simpa using hy)⟩
section
variable {c : Cx} {s : S} {o : Oper}
variable {Q : Exit → S → Prop} {L : List Oper} {need : Nat → Bool} {l : List (Nat × Bool)} {i r : Nat}
theorem AE1.rxy {v : V} {j : Nat} {b : Bool} (hi : L[i]? = some o) (hg : o.guard = some (j, b)) (hy : yld L.toArray s j = some b) (hd : dok s o = true) (hp : noP Q) (h : RX c o s r v) (hN : AE1 c L.toArray Q need r l (s.put o.dst v)) : AE1 c L.toArray Q need r ((i, true) :: l) s := fun e g a w hs he hl => by
  obtain ⟨x, h1, h2⟩ := h e g a w hs he
  exact ⟨o, x, by simpa using hi, .inl ⟨by simp [Region.wanted, hg, yld_spec hy hs], h2⟩, BX.refl _, QQ_noP hp _ _, hN e g _ w (hs.put o.dst (dok_spec hd) h1) he.put hl⟩
theorem AE1.rpy {v : V} {j : Nat} {b : Bool} (hi : L[i]? = some o) (hg : o.guard = some (j, b)) (hy : yld L.toArray s j = some b) (hd : dok s o = true) (hp : noP Q) (h : RP c o s v) (hN : AE1 c L.toArray Q need r l (s.put o.dst v)) : AE1 c L.toArray Q need r ((i, true) :: l) s := AE1.rxy hi hg hy hd hp h.rx hN
theorem AE1.no {j : Nat} {b b' : Bool} (hi : L[i]? = some o) (hg : o.guard = some (j, b)) (hy : yld L.toArray s j = some b') (hb : (b' == b) = false) (hd : dok s o = true) (hp : noP Q) (hN : AE1 c L.toArray Q need r l (s.put o.dst .junk)) : AE1 c L.toArray Q need r ((i, true) :: l) s := fun e g a w hs he hl =>
  ⟨o, undef, by simpa using hi, .inr ⟨by simp only [Region.wanted, hg, yld_spec hy hs]; simpa using hb, rfl⟩, BX.refl _, QQ_noP hp _ _, hN e g _ w (hs.put o.dst (dok_spec hd) (.junk _)) he.put hl⟩
theorem AE1.noV {j : Nat} {b b' : Bool} (hi : L[i]? = some o) (hg : o.guard = some (j, b)) (hy : yld L.toArray s j = some b') (hb : (b' == b) = false) (hd : dok s o = true) (hp : noP Q) (hN : AE1 c L.toArray Q need r l (s.put o.dst (.d (.p undef)))) : AE1 c L.toArray Q need r ((i, true) :: l) s := fun e g a w hs he hl =>
  ⟨o, undef, by simpa using hi, .inr ⟨by simp only [Region.wanted, hg, yld_spec hy hs]; simpa using hb, rfl⟩, BX.refl _, QQ_noP hp _ _, hN e g _ w (hs.put o.dst (dok_spec hd) (.d _ _ (.p _))) he.put hl⟩
theorem AE1.noU {j : Nat} {b : Bool} (hi : L[i]? = some o) (hg : o.guard = some (j, b)) (hy : und L.toArray s j) (hd : dok s o = true) (hp : noP Q) (hN : AE1 c L.toArray Q need r l (s.put o.dst (.d (.p undef)))) : AE1 c L.toArray Q need r ((i, true) :: l) s := fun e g a w hs he hl =>
  ⟨o, undef, by simpa using hi, .inr ⟨by simp only [Region.wanted, hg, und_spec hy hs]; simp, rfl⟩, BX.refl _, QQ_noP hp _ _, hN e g _ w (hs.put o.dst (dok_spec hd) (.d _ _ (.p _))) he.put hl⟩
end
section
variable {c : Cx} {s : S} {o : Oper}
end
section
variable {c : Cx} {s : S} {o : Oper}
theorem st_enter (l : List Nat) {ts : List V} {f : FuncId} {fn : Func} {code : Code} {n : Nat} {rs : List ResultVar} {ars : List V} {N : S → Prop} (hts : l.map (fun i => fnd s.T i) = ts.map some) (hf : Is c.P f fn code n rs) (hn : ars.length ≤ n) (hd : dok s o = true)
    (hex : ∀ g a w, Sim c g s a w → ∃ xs : List Value, (execOp a.eval o).run c.P w = .ok (.enter f xs.toArray) w ∧ VReps w (qt c s.H g) g ars xs)
    (h : ∀ kx, AW ⟨c.P, c.w0, c.out, kx, []⟩ code (QI c.P rs s.n l o.dst N) ⟨n, enum 0 ars, s.H, ts ++ s.K⟩) : Step c o s N := by
  intro g a w hs K Q hK
  obtain ⟨xs, hrun, harl, harg⟩ := hex g a w hs
  have hll : l.length = ts.length := by simpa using congrArg List.length hts
  have hlt : ∀ (j i : Nat) (v : V), l[j]? = some i → ts[j]? = some v → fnd s.T i = some v := by
    intro j i v h1 h2
    have h3 := congrArg (fun l => l[j]?) hts
    simp only [List.getElem?_map, h1, h2, Option.map_some, Option.some.injEq] at h3
    exact h3
  have hlt' : ∀ (j i : Nat), l[j]? = some i → ∃ v x, ts[j]? = some v ∧ fnd s.T i = some v ∧ a.tmps[i]? = some x ∧ VRep w (qt c s.H g) g v x := by
    intro j i h1
    have hj : j < ts.length := by rw [← hll]; exact (List.getElem?_eq_some_iff.1 h1).1
    have h2 := hlt j i ts[j] h1 (List.getElem?_eq_getElem hj)
    obtain ⟨x, h3, h4⟩ := hs.tmp i _ h2
    exact ⟨_, x, List.getElem?_eq_getElem hj, h2, h3, h4⟩
  have hsim : Sim ⟨c.P, c.w0, c.out, l.map (fun i => a.tmps.getD i undef) ++ c.kx, []⟩ g ⟨n, enum 0 ars, s.H, ts ++ s.K⟩ { tmps := xs.toArray ++ Array.replicate (fn.ntmps - xs.toArray.size) undef, defers := [] } w := by
    refine ⟨?_, rfl, ?_, hs.nul, hs.obj, ?_, hs.inj, hs.base, hs.low, hs.below⟩
    · simp [hf.ntmps]; omega
    · intro i v hv
      obtain ⟨_, h2⟩ := fnd_enum _ 0 i v hv
      simp only [Nat.sub_zero] at h2
      have hi : i < xs.length := by
        have := (List.getElem?_eq_some_iff.1 h2).1
        omega
      refine ⟨xs[i], ?_, ?_⟩
      · rw [hf.ntmps]
        exact enter_get (List.getElem?_eq_getElem hi) zT13
      exact harg i v _ h2 (List.getElem?_eq_getElem hi)
    intro j v x h1 h2
    by_cases hj : j < ts.length
    · rw [List.getElem?_append_left hj] at h1
      rw [List.getElem?_append_left (by simp; omega)] at h2
      simp only [List.getElem?_map] at h2
      cases h3 : l[j]? with
      | none => rw [h3] at h2; cases h2
      | some i =>
        rw [h3] at h2
        simp only [Option.map_some, Option.some.injEq] at h2
        obtain ⟨v', x', h4, h5, h6, h7⟩ := hlt' j i h3
        rw [h4] at h1
        simp only [Option.some.injEq] at h1
        subst h1
        have : x = x' := by rw [← h2]; simp [Array.getD_eq_getD_getElem?, h6]
        subst this
        exact h7
    rw [List.getElem?_append_right zT13] at h1
    rw [List.getElem?_append_right (by simp; omega)] at h2
    refine hs.keep (j - ts.length) v x h1 ?_
    simpa [hll] using h2
  unfold Oper.wp
  rw [hrun]
  simp only [Oper.upon]
  refine calls_of_wp hf.func hf.body (wp_mono (h (l.map (fun i => a.tmps.getD i undef) ++ c.kx) g _ w hsim) fun e a1 w1 hq => ?_)
  obtain ⟨g1, s1, h1, h2⟩ := hq
  have fin : (∃ vs, resL c.P s1 rs vs ∧ N (S.put ⟨s.n, l.zip s1.K, s1.H, s1.K.drop l.length⟩ o.dst (tupOf vs))) →
      a1.defers = [] ∧ ∃ v, (results fn a1.tmps).run c.P w1 = .ok v w1 ∧ K (a.put o.dst v) w1 := by
    rintro ⟨vs, k1, k2⟩
    obtain ⟨x, k3, k4⟩ := run_results (c := ⟨c.P, c.w0, c.out, l.map (fun i => a.tmps.getD i undef) ++ c.kx, []⟩) hf.results h2 k1
    refine ⟨h2.defers, x, k4, ?_⟩
    refine hK g1 _ _ _ k2 (Sim.put (s := ⟨s.n, l.zip s1.K, s1.H, s1.K.drop l.length⟩) (c := c) ?_ o.dst (dok_spec (s := s) hd) k3)
    refine ⟨hs.size, hs.defers, ?_, h2.nul, h2.obj, ?_, h2.inj, h2.base, h2.low, h2.below⟩
    · intro i v hv
      obtain ⟨j, h3, h4⟩ := fnd_zip _ _ i v hv
      obtain ⟨v', x', h5, h6, h7, h8⟩ := hlt' j i h3
      refine ⟨x', h7, h2.keep j v x' h4 ?_⟩
      have hj : j < l.length := (List.getElem?_eq_some_iff.1 h3).1
      simp only
      rw [List.getElem?_append_left (by simpa using hj)]
      simp [h3, Array.getD_eq_getD_getElem?, h7]
    intro j v x h3 h4
    refine h2.keep (l.length + j) v x (by simpa using h3) ?_
    simp only
    rw [List.getElem?_append_right zT14]
    simpa using h4
  cases e with
  | normal => exact fin h1
  | ret => exact fin h1
  | _ => exact h1.elim
end
/-- How a call ends that worked on its caller's objects: result, objects, kept values. -/
def QP (P : Program) (rs : List ResultVar) (post : V → List (Nat × Row) → List V → Prop) : Exit → S → Prop
  | .normal, s => ∃ vs, resL P s rs vs ∧ post (tupOf vs) s.H s.K
  | .ret, s => ∃ vs, resL P s rs vs ∧ post (tupOf vs) s.H s.K
  | _, _ => False
/-- How the caller goes on. -/
def back (s : S) (l : List Nat) (d : Option Tmp) (v : V) (H : List (Nat × Row)) (K : List V) : S := S.put ⟨s.n, l.zip K, H, K.drop l.length⟩ d v
/-- A call of function f with the objects H and the kept values K. -/
def PC (P : Program) (f : FuncId) (args : List V) (H : List (Nat × Row)) (K : List V) (post : V → List (Nat × Row) → List V → Prop) : Prop :=
  ∀ (c : Cx) (s : S) (o : Oper) (fx : Operand) (xs : Array Operand) (tys : Array TypeId) (l : List Nat) (ts : List V), c.P = P → o.op = .call { callee := .value fx, args := xs, argTypes := tys } → s.ev fx = some (.fn f []) → xs.toList.map s.ev = args.map some →
    l.map (fun i => fnd s.T i) = ts.map some → s.H = H → ts ++ s.K = K → dok s o = true → Step c o s (fun s' => ∃ v H' K', post v H' K' ∧ s' = back s l o.dst v H' K')
/-- A call of a method through an interface value that holds v of type t. -/
def PM (P : Program) (t : TypeId) (v : V) (name : String) (args : List V) (H : List (Nat × Row)) (K : List V) (post : V → List (Nat × Row) → List V → Prop) : Prop :=
  ∀ (c : Cx) (s : S) (o : Oper) (rx : Operand) (xs : Array Operand) (tys : Array TypeId) (l : List Nat) (ts : List V), c.P = P → o.op = .call { callee := .invoke rx name, args := xs, argTypes := tys } → s.ev rx = some (.ifc t v) → xs.toList.map s.ev = args.map some →
    l.map (fun i => fnd s.T i) = ts.map some → s.H = H → ts ++ s.K = K → dok s o = true → Step c o s (fun s' => ∃ v H' K', post v H' K' ∧ s' = back s l o.dst v H' K')
theorem QP.toQI {P : Program} {rs : List ResultVar} {post : V → List (Nat × Row) → List V → Prop} {s : S} {l : List Nat} {d : Option Tmp} {e : Exit} {s1 : S} (h : QP P rs post e s1) : QI P rs s.n l d (fun s' => ∃ v H' K', post v H' K' ∧ s' = back s l d v H' K') e s1 := by
  cases e with
  | normal => obtain ⟨vs, h1, h2⟩ := h; exact ⟨vs, h1, _, _, _, h2, rfl⟩
  | ret => obtain ⟨vs, h1, h2⟩ := h; exact ⟨vs, h1, _, _, _, h2, rfl⟩
  | _ => exact h.elim
theorem PC.intro {P : Program} {f : FuncId} {fn : Func} {code : Code} {n : Nat} {rs : List ResultVar} {args : List V} {H : List (Nat × Row)} {K : List V} {post : V → List (Nat × Row) → List V → Prop} (hf : Is P f fn code n rs) (hn : args.length ≤ n)
    (h : ∀ w0 out kx, AW ⟨P, w0, out, kx, []⟩ code (QP P rs post) ⟨n, enum 0 args, H, K⟩) : PC P f args H K post := by
  intro c s o fx xs tys l ts hP ho hfx hargs hts hH hK hd
  subst hP hH hK
  refine st_enter l hts hf hn hd (fun g a w hs => ?_) (fun kx => (h c.w0 c.out kx).mono fun e s1 hq => hq.toQI)
  obtain ⟨cs, hfv, hcl, _⟩ := fn_eval hs hfx
  obtain rfl : cs = [] := by cases cs with | nil => rfl | cons => simp at hcl
  exact ⟨_, by rw [exec_call (caps := []) hf ho hfv, List.append_nil], args_eval hs hargs⟩
theorem exec_invoke1 {c : Cx} {o : Oper} {ρ : Operand → Value} {rx : Operand} {name : String} {xs : Array Operand} {ts : Array TypeId} {f : FuncId} {fn : Func} {code : Code} {n : Nat} {rs : List ResultVar} {t : TypeId} {v v' : Value} {w : World} (hf : Is c.P f fn code n rs) (ho : o.op = .call { callee := .invoke rx name, args := xs, argTypes := ts })
    (hfx : ρ rx = .iface t v) (hm : (method (c.P.types.size + Made.depth) t v name).run c.P w = .ok (f, v') w) : (execOp ρ o).run c.P w = .ok (.enter f (v' :: xs.toList.map ρ).toArray) w := by
  have hb : fn.body.isNone = false := by rw [hf.body]; rfl
  have hn := hf.name
  simp only [execOp, ho, resolve, hfx, Sem.run_bind, Sem.run_pure, Result.andThen_ok, invoke]
  have h0 : (#[Value.iface t v] ++ xs.map ρ)[0]? = some (.iface t v) := by simp [Array.getElem?_append_left]
  rw [h0]
  simp only [callMethod, Sem.run_bind, run_program, Result.andThen_ok, hm]
  simp only [callFunc, Sem.run_bind, run_program, Result.andThen_ok, hf.func]
  simp at hn
  have hb' : ¬ fn.body = none := by rw [hf.body]; simp
  simp [hn, hb', hb, ← Array.toList_map]
  rw [List.take_of_length_le zT14]
theorem ifc_eval {c : Cx} {s : S} {g : Nat → Nat × Nat} {a : Act} {w : World} (hs : Sim c g s a w) {rx : Operand} {t : TypeId} {v : V} (hx : s.ev rx = some (.ifc t v)) : ∃ x, a.eval rx = .iface t x ∧ VRep w (qt c s.H g) g v x := by
  have h := hs.ev hx
  generalize a.eval rx = u at h
  cases h with | ifc _ _ x h => exact ⟨x, rfl, h⟩
theorem reps_cons' {w : World} {q : Nat → Prop} {g : Nat → Nat × Nat} {v : V} {x : Value} {vs : List V} {xs : List Value} (h : VRep w q g v x) (hs : VReps w q g vs xs) : VReps w q g (v :: vs) (x :: xs) :=
  ⟨by simp [hs.1], fun j u y hu hy => by
    cases j with
    | zero => simp at hu hy; subst hu hy; exact h
    | succ j => exact hs.2 j u y (by simpa using hu) (by simpa using hy)⟩
/-- A method of what the pointer points to. -/
theorem PM.val {P : Program} {t : TypeId} {r k : Nat} {name : String} {f : FuncId} {fn : Func} {code : Code} {n : Nat} {rs : List ResultVar} {args : List V} {H : List (Nat × Row)} {K : List V} {post : V → List (Nat × Row) → List V → Prop} {row : Row} {v : V} (hf : Is P f fn code n rs) (hn : args.length + 1 ≤ n)
    {md : Mode} (hm : ∀ p w, (method (P.types.size + Made.depth) t (.pointer (some p)) name).run P w = (Sem.load md p (fun v => .pure (f, v))).run P w)
    (hr : fnd H r = some row) (hnl : row.nil = false) (hv : row.cells[k]? = some v)
    (h : ∀ w0 out kx, AW ⟨P, w0, out, kx, []⟩ code (QP P rs post) ⟨n, enum 0 (v :: args), H, K⟩) : PM P t (.ref r k) name args H K post := by
  intro c s o rx xs tys l ts hP ho hrx hargs hts hH hK hd
  subst hP hH hK
  refine st_enter l hts hf (by simpa using hn) hd (fun g a w hs => ?_) (fun kx => (h c.w0 c.out kx).mono fun e s1 hq => hq.toQI)
  obtain ⟨x, h1, h2⟩ := ifc_eval hs hrx
  cases h2
  obtain ⟨arr, h3, _, h4⟩ := hs.obj r row hr hnl
  obtain ⟨y, h5, h6⟩ := h4 k v hv
  have hcell : w.cell? ⟨(g r).1, k, none⟩ = some y := (cell_of_row w _ _ _ _ _ h3).trans h5
  refine ⟨_, exec_invoke1 (v' := y) hf ho h1 ?_, reps_cons' h6 (args_eval hs hargs)⟩
  rw [hm]
  simp [Sem.run, hcell]
theorem PM.mono {P : Program} {t : TypeId} {v : V} {name : String} {args : List V} {H : List (Nat × Row)} {K : List V} {post post' : V → List (Nat × Row) → List V → Prop} (h : PM P t v name args H K post) (hp : ∀ v H K, post v H K → post' v H K) : PM P t v name args H K post' :=
  fun c s o rx xs tys l ts h1 h2 h3 h4 h5 h6 h7 h8 g a w hs K' Q' hK => h c s o rx xs tys l ts h1 h2 h3 h4 h5 h6 h7 h8 g a w hs K' Q' fun g' s' a' w' ⟨u, H', K2, k1, k2⟩ k3 => hK g' s' a' w' ⟨u, H', K2, hp _ _ _ k1, k2⟩ k3
section
variable {c : Cx} {s : S} {o : Oper} {Q : Exit → S → Prop} {ops : Array Oper} {rest : List Oper}
theorem AL.pc {P : Program} {f : FuncId} {args : List V} {H : List (Nat × Row)} {K : List V} {post : V → List (Nat × Row) → List V → Prop} {fx : Operand} {xs : Array Operand} {tys : Array TypeId} (l : List Nat) {ts : List V} (h : PC P f args H K post) (hg : o.guard = none) (hP : c.P = P) (ho : o.op = .call { callee := .value fx, args := xs, argTypes := tys }) (hfx : s.ev fx = some (.fn f [])) (hargs : xs.toList.map s.ev = args.map some)
    (hts : l.map (fun i => fnd s.T i) = ts.map some) (hH : s.H = H) (hK : ts ++ s.K = K) (hd : dok s o = true) (hN : ∀ v H' K', post v H' K' → AL c ops rest Q (back s l o.dst v H' K')) : AL c ops (o :: rest) Q s :=
  AL.step hg fun g a w hs K' Q' hK' => h c s o fx xs tys l ts hP ho hfx hargs hts hH hK hd g a w hs K' Q' fun g' s' a' w' ⟨v, H', K2, h1, h2⟩ h3 => hK' g' s' a' w' (by subst h2; exact hN _ _ _ h1) h3
/-- Objects and kept values that lie below: none of them is one of the heap's. -/
structure Lw (H : List (Nat × Row)) (K : List V) : Prop where
  obj : ∀ x ∈ H, x.1 < 900 ∧ V.lowL 901 x.2.cells = true
  keep : V.lowL 901 K = true
theorem Lw.all {H : List (Nat × Row)} {K : List V} (h : Lw H K) : ∀ r, 901 ≤ r → H.all (fun x => x.1 != r && !V.hasL r x.2.cells) = true := fun r hr => by
  rw [List.all_eq_true]
  intro x hx
  obtain ⟨h1, h2⟩ := h.obj x hx
  rw [V.lowL_has hr _ h2]
  simp; omega
theorem Lw.has {H : List (Nat × Row)} {K : List V} (h : Lw H K) : ∀ r, 901 ≤ r → V.hasL r K = false := fun r hr => V.lowL_has hr _ h.keep
theorem Lw.fnd {H : List (Nat × Row)} {K : List V} (h : Lw H K) : ∀ r, 900 ≤ r → Go.Proofs.YthiknkcigcglkaaDoor.fnd H r = none := fun r hr => by
  cases hh : Go.Proofs.YthiknkcigcglkaaDoor.fnd H r with
  | none => rfl
  | some row => have := (h.obj _ (fnd_mem hh)).1; simp only at this; omega
theorem Lw.forgetK {H : List (Nat × Row)} {K : List V} (h : Lw H K) : ∀ r, 901 ≤ r → K.map (junkIf r) = K := fun r hr => by
  have h1 := V.hasL_false.1 (h.has r hr)
  have : ∀ (l : List V), (∀ v ∈ l, v.has r = false) → l.map (junkIf r) = l := by
    intro l
    induction l with
    | nil => intro _; rfl
    | cons v l ih =>
      intro hl
      rw [List.map_cons, ih fun v hv => hl v (by simp [hv]), junkIf, if_neg (by rw [hl v zT14]; simp)]
  exact this K h1
theorem Lw.forgetH {H : List (Nat × Row)} {K : List V} (h : Lw H K) : ∀ r, 901 ≤ r → (H.filter (fun x => x.1 != r)).map (fun x => (x.1, { x.2 with cells := if V.hasL r x.2.cells then x.2.cells.map (junkIf r) else x.2.cells })) = H := fun r hr => by
  have : ∀ (l : List (Nat × Row)), (∀ x ∈ l, x.1 < 900 ∧ V.lowL 901 x.2.cells = true) → (l.filter (fun x => x.1 != r)).map (fun x => (x.1, { x.2 with cells := if V.hasL r x.2.cells then x.2.cells.map (junkIf r) else x.2.cells })) = l := by
    intro l
    induction l with
    | nil => intro _; rfl
    | cons x l ih =>
      intro hl
      obtain ⟨h1, h2⟩ := hl x zT14
      rw [List.filter_cons, if_pos (by simp; omega), List.map_cons, ih fun x hx => hl x (by simp [hx]), V.lowL_has hr _ h2]
      simp
  exact this H h.obj
/-- The objects as a call wants them: the variable, its slice, all others. -/
theorem Less.hp {s : S} {T : List (Nat × V)} {b r : Row} {H0 : List (Nat × Row)} (hT : LT s T) (h1 : fnd s.H 900 = some b) (h2 : fnd s.H 901 = some r) (h3 : ∀ k row, fnd H0 k = some row → fnd s.H k = some row) : Less ⟨s.n, T, (900, b) :: (901, r) :: H0, s.K⟩ s := by
  refine ⟨rfl, fun i v h => hT.get i v h, fun k row h => ⟨row, ?_, rfl, rfl, rfl, fun j v hv => ⟨v, hv, .refl _⟩⟩, fun j v h => ⟨v, h, .refl _⟩⟩
  simp only [fnd] at h
  split at h
  · rename_i e
    simp only [beq_iff_eq] at e
    subst e
    rw [h1]; exact h
  split at h
  · rename_i e
    simp only [beq_iff_eq] at e
    subst e
    rw [h2]; exact h
  exact h3 k row h
theorem LH.of {s : S} {l : List (Nat × Row)} (h : LH s l) : ∀ k row, fnd l k = some row → fnd s.H k = some row := h.get
theorem Lw.low {H : List (Nat × Row)} {K : List V} (h : Lw H K) {T : List (Nat × Row)} (hT : T.all (fun x => decide (900 ≤ x.1)) = true) : ∀ k row, Go.Proofs.YthiknkcigcglkaaDoor.fnd H k = some row → Go.Proofs.YthiknkcigcglkaaDoor.fnd (T ++ H) k = some row := fun k row hk => by
  have hlt : k < 900 := (h.obj _ (fnd_mem hk)).1
  induction T with
  | nil => exact hk
  | cons x T ih =>
    simp only [List.all_cons, Bool.and_eq_true, decide_eq_true_eq] at hT
    obtain ⟨i, y⟩ := x
    simp only at hT
    simp only [List.cons_append, Go.Proofs.YthiknkcigcglkaaDoor.fnd]
    rw [if_neg (by simp; omega)]
    exact ih hT.2
theorem Lw.keepL {H : List (Nat × Row)} {K : List V} (h : Lw H K) (ts : List V) (ht : V.lowL 901 ts = true) : Lw H (ts ++ K) := ⟨h.obj, by
  have : ∀ (l : List V), V.lowL 901 l = true → V.lowL 901 (l ++ K) = true := by
    intro l
    induction l with
    | nil => intro _; exact h.keep
    | cons v l ih =>
      intro hl
      simp only [V.lowL, Bool.and_eq_true] at hl
      simp only [List.cons_append, V.lowL, Bool.and_eq_true]
      exact ⟨hl.1, ih hl.2⟩
  exact this ts ht⟩
theorem rp_subZ {t t' : TypeId} {x y : Operand} {m n : Int} (z : Int) (ho : o.op = .binOp .sub t x y t') (hx : s.ev x = some (.i m)) (hy : s.ev y = some (.i n)) (h : -9223372036854775808 ≤ m - n ∧ m - n ≤ 9223372036854775807) (hz : m - n = z) : RP c o s (.i z) := by
  subst hz; exact rp_sub ho hx hy h
/-- As QP, from a state that may know more. -/
def QPW (P : Program) (rs : List ResultVar) (post : V → List (Nat × Row) → List V → Prop) : Exit → S → Prop
  | .normal, s => ∃ s', Less s' s ∧ QP P rs post .normal s'
  | .ret, s => ∃ s', Less s' s ∧ QP P rs post .ret s'
  | _, _ => False
theorem AW.weaken {P : Program} {rs : List ResultVar} {post : V → List (Nat × Row) → List V → Prop} {x : Code} (h : AW c x (QPW P rs post) s) : AW c x (QP P rs post) s := fun g a w hs => wp_mono (h g a w hs) fun e a' w' hq => by
  obtain ⟨g', s1, h1, h3⟩ := hq
  cases e <;> first | (obtain ⟨s2, h4, h5⟩ := h1; exact ⟨g', s2, h5, h3.less h4⟩) | exact h1.elim
end
section
variable {P : Program} {ops : Array Oper} {Q : Exit → Act → World → Prop} {md : Region.Mode} {T : World → Prop} {need : Nat → Bool}
def anyF (P : Program) (md : Region.Mode) (ops : Array Oper) (Q : Exit → Act → World → Prop) (T : World → Prop) (need : Nat → Bool) : Nat → Array Bool → Act → World → Prop
  | 0, listed, a, w => Region.ready md ops listed = [] ∧ Q .normal a w
  | n + 1, listed, a, w => (Region.ready md ops listed = [] → Q .normal a w) ∧
      ∀ i ∈ Region.ready md ops listed, wpOp P ops Q i (fun a' w' => (need i = true → T w → T w') ∧ anyF P md ops Q T need n (listed.setIfInBounds i true) a' w') a w
theorem any_of_anyF : ∀ (n : Nat) (listed : Array Bool) (a : Act) (w : World), anyF P md ops Q T need n listed a w → wpAny P md ops Q n listed a w
  | 0, _, _, _, h => h
  | n + 1, _, _, _, h => ⟨h.1, fun i hi => wpOp_mono (fun a' w' h' => any_of_anyF n _ a' w' h'.2) (h.2 i hi)⟩
theorem not_listed {listed : Array Bool} {i : Nat} (hr : i ∈ Region.ready md ops listed) : listed.getD i false = false := by
  have hil := (mem_ready.1 hr).1
  rw [Array.getD_eq_getD_getElem?] at hil ⊢
  cases hl : listed[i]? with
  | none => rw [hl] at hil; cases hil
  | some b => rw [hl] at hil; exact hil
theorem anyF_early {k i N : Nat} {oi : Oper} {v : Value} {S : World → Prop} (hk : (k = 2 ∧ S = fun _ => True) ∨ (k = 1 ∧ S = T ∧ ∀ j, j ≠ i → j < ops.size → need j = true ∨ reachB md ops N j i = true)) (hi : ops[i]? = some oi) (hsel : ∀ (j : Nat) (o : Oper) cs b, ops[j]? = some o → o.op ≠ .select cs b)
    (hQ : ∀ c a w, Q (.panic c) (a.put oi.dst v) w → Q (.panic c) a w) (n : Nat) :
    ∀ (listed : Array Bool) (a : Act) (w : World), closedL md ops listed →
      (∀ j oj, ops[j]? = some oj → j ≠ i → listed.getD j true = false → (∀ e ∈ oj.after, Region.binds md e = true → e.on ≠ i) → oi.apart ops oj = true) →
      i ∈ Region.ready md ops listed → YieldsIf P ops S oi v a → S w →
      anyF P md ops Q T need n (listed.setIfInBounds i true) (a.put oi.dst v) w → anyF P md ops Q T need (n + 1) listed a w := by
  induction n with
  | zero =>
    intro listed a w hcl hfree hr hy hS H
    refine ⟨fun h => by rw [h] at hr; exact absurd hr List.not_mem_nil, fun j hj => ?_⟩
    by_cases hji : j = i
    · subst hji
      exact hy.wpOp hi hS ⟨fun _ h => h, H⟩
    have hm := ready_mono hj hji
    rw [H.1] at hm
    exact absurd hm List.not_mem_nil
  | succ n ih =>
    intro listed a w hcl hfree hr hy hS H
    refine ⟨fun h => by rw [h] at hr; exact absurd hr List.not_mem_nil, fun j hj => ?_⟩
    by_cases hji : j = i
    · subst hji
      exact hy.wpOp hi hS ⟨fun _ h => h, H⟩
    have hij : i ≠ j := fun h => hji h.symm
    have hnext := H.2 j (ready_mono hj hji)
    obtain ⟨hjl, oj, hoj, hdone⟩ := mem_ready.1 hj
    have hil' := not_listed hr
    have hno : ∀ e ∈ oj.after, Region.binds md e = true → e.on ≠ i := by
      intro e he hb hei
      have hd := hdone e he hb
      rw [hei, hil'] at hd
      cases hd
    have hstep := wpOp_putIf hoj (hfree j oj hoj hji hjl hno) (fun cs b => hsel i oi cs b hi) (fun cs b => hsel j oj cs b hoj) hQ hy hnext
    refine wpOp_mono (fun a' w' h3 => ?_) hstep
    obtain ⟨hy', hS', hrest⟩ := h3
    have hSw : S w' := by
      rcases hk with ⟨_, rfl⟩ | ⟨_, rfl, hz⟩
      · trivial
      refine hS' ?_ hS
      rcases hz j hji (Array.getElem?_eq_some_iff.1 hoj).1 with h | h
      · exact h
      have := reach_ready hcl h hj
      rw [hil'] at this
      cases this
    refine ⟨hS', ih _ a' w' (closed_set hcl hj) ?_ (ready_mono hr hij) hy' hSw ?_⟩
    · intro k ok hk hki hkl hkn
      refine hfree k ok hk hki ?_ hkn
      by_cases hjk : j = k
      · subst hjk
        exact hjl
      rwa [getD_set_ne true hjk] at hkl
    rw [Array.setIfInBounds_comm _ _ hji]
    exact hrest
def ASeqF (P : Program) (ops : Array Oper) (Q : Exit → Act → World → Prop) (T : World → Prop) (need : Nat → Bool) : List (Nat × Nat) → Act → World → Prop
  | [], a, w => Q .normal a w
  | (i, 0) :: r, a, w => wpOp P ops Q i (fun a' w' => (need i = true → T w → T w') ∧ ASeqF P ops Q T need r a' w') a w
  | (i, 1) :: r, a, w => ∃ oi x, ops[i]? = some oi ∧ YieldsIf P ops T oi x a ∧ T w ∧ (∀ c a w, Q (.panic c) (a.put oi.dst x) w → Q (.panic c) a w) ∧ ASeqF P ops Q T need r (a.put oi.dst x) w
  | (i, _ + 2) :: r, a, w => ∃ oi x, ops[i]? = some oi ∧ YieldsIf P ops (fun _ => True) oi x a ∧ (∀ c a w, Q (.panic c) (a.put oi.dst x) w → Q (.panic c) a w) ∧ ASeqF P ops Q T need r (a.put oi.dst x) w
def okF (md : Region.Mode) (ops : Array Oper) (need : Nat → Bool) (N : Nat) : List (Nat × Nat) → Array Bool → Bool
  | [], listed => (Region.ready md ops listed).isEmpty
  | (i, 0) :: r, listed => (Region.ready md ops listed == [i]) && okF md ops need N r (listed.setIfInBounds i true)
  | (i, 1) :: r, listed => (Region.ready md ops listed).contains i && Region.free md ops listed i && ((List.range ops.size).all fun j => j == i || need j || reachB md ops N j i) && okF md ops need N r (listed.setIfInBounds i true)
  | (i, _ + 2) :: r, listed => (Region.ready md ops listed).contains i && Region.free md ops listed i && okF md ops need N r (listed.setIfInBounds i true)
theorem anyF_of {N : Nat} (hsel : Region.noSelect ops = true) : ∀ (l : List (Nat × Nat)) (listed : Array Bool) (a : Act) (w : World), closedL md ops listed → okF md ops need N l listed = true → ASeqF P ops Q T need l a w → anyF P md ops Q T need l.length listed a w
  | [], listed, a, w, _, hok, h => ⟨by simpa [okF] using hok, h⟩
  | (i, 0) :: r, listed, a, w, hcl, hok, h => by
    simp only [okF, Bool.and_eq_true, beq_iff_eq] at hok
    obtain ⟨h1, h2⟩ := hok
    have hr : i ∈ Region.ready md ops listed := by rw [h1]; exact List.mem_singleton.2 rfl
    refine ⟨fun h0 => (by rw [h0] at h1; cases h1), fun j hj => ?_⟩
    rw [h1] at hj
    obtain rfl := List.mem_singleton.1 hj
    exact wpOp_mono (fun a' w' h' => ⟨h'.1, anyF_of hsel r _ a' w' (closed_set hcl hr) h2 h'.2⟩) h
  | (i, 1) :: r, listed, a, w, hcl, hok, h => by
    simp only [okF, Bool.and_eq_true, List.all_eq_true, List.mem_range, Bool.or_eq_true, beq_iff_eq] at hok
    obtain ⟨⟨⟨h1, h2⟩, h3⟩, h4⟩ := hok
    obtain ⟨oi, x, g1, g2, g3, g4, g5⟩ := h
    have hr : i ∈ Region.ready md ops listed := by simpa using h1
    refine anyF_early (k := 1) (N := N) (S := T) (.inr ⟨rfl, rfl, fun j hj hlt => ?_⟩) g1 (Region.noSelect_spec hsel) g4 r.length listed a w hcl (Region.free_spec g1 h2) hr g2 g3 (anyF_of hsel r _ _ w (closed_set hcl hr) h4 g5)
    rcases h3 j hlt with (h | h) | h
    · exact absurd h hj
    · exact .inl h
    exact .inr h
  | (i, m + 2) :: r, listed, a, w, hcl, hok, h => by
    simp only [okF, Bool.and_eq_true] at hok
    obtain ⟨⟨h1, h2⟩, h4⟩ := hok
    obtain ⟨oi, x, g1, g2, g4, g5⟩ := h
    have hr : i ∈ Region.ready md ops listed := by simpa using h1
    exact anyF_early (k := 2) (N := N) (S := fun _ => True) (.inl ⟨rfl, rfl⟩) g1 (Region.noSelect_spec hsel) g4 r.length listed a w hcl (Region.free_spec g1 h2) hr g2 trivial (anyF_of hsel r _ _ w (closed_set hcl hr) h4 g5)
end
section
variable {c : Cx} {s : S} {Q : Exit → S → Prop} {ops : Array Oper} {L : List Oper} {need : Nat → Bool} {l : List (Nat × Nat)} {i : Nat} {o : Oper}
/-- First reads, then what makes new memory, then anything. -/
def AF1 (c : Cx) (ops : Array Oper) (Q : Exit → S → Prop) (need : Nat → Bool) (l : List (Nat × Nat)) (s : S) : Prop := ∀ g a w, Sim c g s a w → ASeqF c.P ops (QQ c Q) (Below w.heap.size w) need l a w
def AF2 (c : Cx) (ops : Array Oper) (Q : Exit → S → Prop) (need : Nat → Bool) (l : List (Nat × Nat)) (s : S) : Prop := ∀ W g a w, Sim c g s a w → Below W.heap.size W w → ASeqF c.P ops (QQ c Q) (Below W.heap.size W) need l a w
def AF3 (c : Cx) (ops : Array Oper) (Q : Exit → S → Prop) (need : Nat → Bool) (l : List (Nat × Nat)) (s : S) : Prop := ∀ (T : World → Prop) g a w, Sim c g s a w → ASeqF c.P ops (QQ c Q) T need l a w
theorem AW.drawF {id : Nat} {l : List Oper} (order : List (Nat × Nat)) (need : Nat → Bool) (N : Nat) (hm : c.P.follows .mixedOrders = true) (hsel : Region.noSelect l.toArray = true) (hlen : order.length = l.length)
    (hok : okF .any l.toArray need N order (Array.replicate l.length false) = true) (h : AF1 c l.toArray Q need order s) : AW c (.region id l.toArray true) Q s := by
  intro g a w hs
  refine wp_region_any hm ?_
  have hs' : Sim c g s a w.drew := hs.move (Below.drew (Below.refl _ _))
  have := any_of_anyF _ _ _ _ (anyF_of (P := c.P) (Q := QQ c Q) (T := Below w.drew.heap.size w.drew) (need := need) (md := .any) hsel order (Array.replicate l.length false) a w.drew (by
    intro j oj _ hl
    rw [Array.getD_eq_getD_getElem?, Array.getElem?_replicate] at hl
    split at hl <;> simp at hl) hok (h g a _ hs'))
  rw [hlen] at this
  simpa using this
theorem AF1.rd {v : V} (hi : L[i]? = some o) (hg : o.guard = none) (hd : dok s o = true) (hp : noP Q) (h : RD c o s v) (hN : AF1 c L.toArray Q need l (s.put o.dst v)) : AF1 c L.toArray Q need ((i, 1) :: l) s := fun g a w hs => by
  obtain ⟨x, h1, h2⟩ := h g a w hs
  exact ⟨o, x, by simpa using hi, .inl ⟨by simp [Region.wanted, hg], h2⟩, Below.refl _ _, QQ_noP hp _ _, hN g _ w (hs.put o.dst (dok_spec hd) h1)⟩
theorem AF1.rdy {v : V} {j : Nat} {b : Bool} (hi : L[i]? = some o) (hg : o.guard = some (j, b)) (hy : yld L.toArray s j = some b) (hd : dok s o = true) (hp : noP Q) (h : RD c o s v) (hN : AF1 c L.toArray Q need l (s.put o.dst v)) : AF1 c L.toArray Q need ((i, 1) :: l) s := fun g a w hs => by
  obtain ⟨x, h1, h2⟩ := h g a w hs
  exact ⟨o, x, by simpa using hi, .inl ⟨by simp [Region.wanted, hg, yld_spec hy hs], h2⟩, Below.refl _ _, QQ_noP hp _ _, hN g _ w (hs.put o.dst (dok_spec hd) h1)⟩
theorem AF1.rp {v : V} (hi : L[i]? = some o) (hg : o.guard = none) (hd : dok s o = true) (hp : noP Q) (h : RP c o s v) (hN : AF1 c L.toArray Q need l (s.put o.dst v)) : AF1 c L.toArray Q need ((i, 2) :: l) s := fun g a w hs => by
  obtain ⟨x, h1, h2⟩ := h g a w hs
  exact ⟨o, x, by simpa using hi, .inl ⟨by simp [Region.wanted, hg], fun w' _ => h2 w'⟩, QQ_noP hp _ _, hN g _ w (hs.put o.dst (dok_spec hd) h1)⟩
theorem AF1.go (h : AF2 c L.toArray Q need l s) : AF1 c L.toArray Q need l s := fun g a w hs => h w g a w hs (Below.refl _ _)
theorem AF1.nil (h : Q .normal s) : AF1 c L.toArray Q need [] s := fun g a w hs => ⟨g, s, h, hs⟩
theorem AF2.rp {v : V} (hi : L[i]? = some o) (hg : o.guard = none) (hd : dok s o = true) (hp : noP Q) (h : RP c o s v) (hN : AF2 c L.toArray Q need l (s.put o.dst v)) : AF2 c L.toArray Q need ((i, 2) :: l) s := fun W g a w hs hb => by
  obtain ⟨x, h1, h2⟩ := h g a w hs
  exact ⟨o, x, by simpa using hi, .inl ⟨by simp [Region.wanted, hg], fun w' _ => h2 w'⟩, QQ_noP hp _ _, hN W g _ w (hs.put o.dst (dok_spec hd) h1) hb⟩
theorem AF2.stepM (hi : L[i]? = some o) (hg : o.guard = none) (h : StepM c o s (AF2 c L.toArray Q need l)) : AF2 c L.toArray Q need ((i, 0) :: l) s := fun W g a w hs hb =>
  wpOp_of (by simpa using hi) hg (h g a w hs _ _ fun g' s' a' w' h1 h2 h3 => ⟨fun _ _ => hb.trans (h3.mono hb.size), h1 W g' a' w' h2 (hb.trans (h3.mono hb.size))⟩)
theorem AF2.sm {X : S} (hi : L[i]? = some o) (hg : o.guard = none) (h : StepM c o s (fun s' => s' = X)) (hN : AF2 c L.toArray Q need l X) : AF2 c L.toArray Q need ((i, 0) :: l) s :=
  AF2.stepM hi hg fun g a w hs K Q' hK => h g a w hs K Q' fun g' s' a' w' e h1 h2 => hK g' s' a' w' (by subst e; exact hN) h1 h2
theorem AF2.call {post : V → Prop} (hi : L[i]? = some o) (hg : o.guard = none) (h : StepM c o s (fun s' => ∃ v, post v ∧ v.pure ∧ s' = s.put o.dst v)) (hN : ∀ v, post v → v.pure → AF2 c L.toArray Q need l (s.put o.dst v)) : AF2 c L.toArray Q need ((i, 0) :: l) s :=
  AF2.stepM hi hg fun g a w hs K Q' hK => h g a w hs K Q' fun g' s' a' w' ⟨v, h1, h2, e⟩ h3 h4 => hK g' s' a' w' (by subst e; exact hN v h1 h2) h3 h4
theorem AF2.rd1 {v : V} (hi : L[i]? = some o) (hg : o.guard = none) (hd : dok s o = true) (h : RD c o s v) (hN : AF2 c L.toArray Q need l (s.put o.dst v)) : AF2 c L.toArray Q need ((i, 0) :: l) s :=
  AF2.stepM hi hg (h.stepM hd hN)
theorem AF2.rp1 {v : V} (hi : L[i]? = some o) (hg : o.guard = none) (hd : dok s o = true) (h : RP c o s v) (hN : AF2 c L.toArray Q need l (s.put o.dst v)) : AF2 c L.toArray Q need ((i, 0) :: l) s := AF2.rd1 hi hg hd h.rd hN
theorem AF2.go (h : AF3 c L.toArray Q need l s) : AF2 c L.toArray Q need l s := fun W g a w hs _ => h _ g a w hs
theorem AF2.nil (h : Q .normal s) : AF2 c L.toArray Q need [] s := fun W g a w hs _ => ⟨g, s, h, hs⟩
theorem AF3.rp {v : V} (hi : L[i]? = some o) (hg : o.guard = none) (hd : dok s o = true) (hp : noP Q) (h : RP c o s v) (hN : AF3 c L.toArray Q need l (s.put o.dst v)) : AF3 c L.toArray Q need ((i, 2) :: l) s := fun T g a w hs => by
  obtain ⟨x, h1, h2⟩ := h g a w hs
  exact ⟨o, x, by simpa using hi, .inl ⟨by simp [Region.wanted, hg], fun w' _ => h2 w'⟩, QQ_noP hp _ _, hN T g _ w (hs.put o.dst (dok_spec hd) h1)⟩
theorem AF3.step (hi : L[i]? = some o) (hg : o.guard = none) (hn : need i = false) (h : Step c o s (AF3 c L.toArray Q need l)) : AF3 c L.toArray Q need ((i, 0) :: l) s := fun T g a w hs =>
  wpOp_of (by simpa using hi) hg (h g a w hs _ _ fun g' s' a' w' h1 h2 => ⟨fun h0 => (by rw [hn] at h0; cases h0), h1 T g' a' w' h2⟩)
theorem AF3.st {X : S} (hi : L[i]? = some o) (hg : o.guard = none) (hn : need i = false) (h : Step c o s (fun s' => s' = X)) (hN : AF3 c L.toArray Q need l X) : AF3 c L.toArray Q need ((i, 0) :: l) s :=
  AF3.step hi hg hn fun g a w hs K Q' hK => h g a w hs K Q' fun g' s' a' w' e h1 => hK g' s' a' w' (by subst e; exact hN) h1
theorem AF3.rd1 {v : V} (hi : L[i]? = some o) (hg : o.guard = none) (hn : need i = false) (hd : dok s o = true) (h : RD c o s v) (hN : AF3 c L.toArray Q need l (s.put o.dst v)) : AF3 c L.toArray Q need ((i, 0) :: l) s :=
  AF3.step hi hg hn (h.stepM hd hN).step
theorem AF3.rp1 {v : V} (hi : L[i]? = some o) (hg : o.guard = none) (hn : need i = false) (hd : dok s o = true) (h : RP c o s v) (hN : AF3 c L.toArray Q need l (s.put o.dst v)) : AF3 c L.toArray Q need ((i, 0) :: l) s := AF3.rd1 hi hg hn hd h.rd hN
theorem AF3.sm {X : S} (hi : L[i]? = some o) (hg : o.guard = none) (hn : need i = false) (h : StepM c o s (fun s' => s' = X)) (hN : AF3 c L.toArray Q need l X) : AF3 c L.toArray Q need ((i, 0) :: l) s := AF3.st hi hg hn h.step hN
theorem AF3.nil (h : Q .normal s) : AF3 c L.toArray Q need [] s := fun T g a w hs => ⟨g, s, h, hs⟩
end
/-- As Fn, in the worlds of which Pre holds. -/
def FnP (Pre : World → Prop) (P : Program) (f : FuncId) (args : List V) (post : V → Prop) : Prop := ∀ (w : World) (out : Nat → Prop) (g : Nat → Nat × Nat) (xs : List Value), Pre w → (∀ b, out b → b < w.heap.size) → VReps w (fun b => ¬ out b) g args xs →
  Calls P f xs.toArray w fun e w' => ∃ v x, e = .returned x ∧ post v ∧ v.pure ∧ VRep w' (fun b => ¬ out b) g v x ∧ Below w.heap.size w w'
def Kept (Pre : World → Prop) : Prop := ∀ w w' : World, Below w.heap.size w w' → Pre w → Pre w'
theorem FnP.ofCalls {Pre : World → Prop} {P : Program} {f : FuncId} {xs : List Value} {y : Value} {args : List V} {v : V} (h : ∀ w, Pre w → Calls P f xs.toArray w fun e w' => e = .returned y ∧ Below w.heap.size w w') (ha : ∀ w q g zs, VReps w q g args zs → zs = xs) (hv : ∀ w q g, VRep w q g v y) (hp : v.pure) : FnP Pre P f args (fun v' => v' = v) := by
  intro w out g zs hw ho hz
  obtain rfl := ha _ _ _ _ hz
  refine (h w hw).mono ?_
  rintro e w' ⟨rfl, hb⟩
  exact ⟨v, y, rfl, rfl, hp, hv _ _ _, hb⟩
theorem FnP.intro {Pre : World → Prop} {P : Program} {f : FuncId} {fn : Func} {code : Code} {n : Nat} {rs : List ResultVar} {args : List V} {post : V → Prop} (hf : Is P f fn code n rs) (hp : ∀ v ∈ args, v.pure) (hn : args.length ≤ n)
    (h : ∀ w0 out, Pre w0 → AW ⟨P, w0, out, [], []⟩ code (QF P rs post) ⟨n, enum 0 args, [], []⟩) : FnP Pre P f args post := by
  intro w out g xs hw hout hx
  refine calls_of_wp hf.func hf.body ?_
  have hs : Sim ⟨P, w, out, [], []⟩ g ⟨n, enum 0 args, [], []⟩ { tmps := xs.toArray ++ Array.replicate (fn.ntmps - xs.toArray.size) undef, defers := [] } w := by
    refine ⟨?_, rfl, ?_, by simp [fnd], by simp [fnd], by simp, by simp [fnd], by simp [fnd], hout, Below.refl _ _⟩
    · simp [hf.ntmps, ← hx.1]; omega
    · intro i v hv
      obtain ⟨_, h2⟩ := fnd_enum args 0 i v hv
      simp only [Nat.sub_zero] at h2
      have hi : i < xs.length := by rw [← hx.1]; exact (List.getElem?_eq_some_iff.1 h2).1
      refine ⟨xs[i], ?_, ?_⟩
      · rw [hf.ntmps]
        exact enter_get (List.getElem?_eq_getElem hi) (by rw [← hx.1]; exact hn)
      · refine (hx.2 i v _ h2 (List.getElem?_eq_getElem hi)).mono Cells.rfl (fun b hb _ => ⟨hb, by simp [fnd]⟩) (fun r _ => rfl)
  refine wp_mono (h w out hw g _ w hs) fun e a' w' hq => ?_
  obtain ⟨g', s', h1, h2⟩ := hq
  have fin : (∃ vs, resL P s' rs vs ∧ post (tupOf vs) ∧ (tupOf vs).pure) → a'.defers = [] ∧ ∃ v, (results fn a'.tmps).run P w' = .ok v w' ∧ ∃ v_1 x, Ending.returned v = .returned x ∧ post v_1 ∧ v_1.pure ∧ VRep w' (fun b => ¬ out b) g v_1 x ∧ Below w.heap.size w w' := by
    rintro ⟨vs, k1, k2, k3⟩
    obtain ⟨x, k4, k5⟩ := run_results (c := ⟨P, w, out, [], []⟩) hf.results h2 k1
    exact ⟨h2.defers, x, k5, _, x, rfl, k2, k3, (k4.repure k3).mono Cells.rfl (fun b hb _ => hb.1) (fun r _ => rfl), h2.below⟩
  cases e with
  | normal => exact fin h1
  | ret => exact fin h1
  | _ => exact h1.elim
theorem Fn.toP {Pre : World → Prop} {P : Program} {f : FuncId} {args : List V} {post : V → Prop} (h : Fn P f args post) : FnP Pre P f args post := fun w out g xs _ h1 h2 => h w out g xs h1 h2
section
variable {c : Cx} {s : S} {o : Oper}
theorem sm_callP {Pre : World → Prop} {fx : Operand} {xs : Array Operand} {ts : Array TypeId} {f : FuncId} {fn : Func} {code : Code} {n : Nat} {rs : List ResultVar} {args : List V} {post : V → Prop} (hk : Kept Pre) (h0 : Pre c.w0) (hfn : FnP Pre c.P f args post) (hf : Is c.P f fn code n rs) (ho : o.op = .call { callee := .value fx, args := xs, argTypes := ts })
    (hfx : s.ev fx = some (.fn f [])) (hargs : xs.toList.map s.ev = args.map some) (hd : dok s o = true) : StepM c o s (fun s' => ∃ v, post v ∧ v.pure ∧ s' = s.put o.dst v) := by
  intro g a w hs K Q hK
  have hfx' : a.eval fx = .func (.func f) #[] ([] : List Value).toArray := by
    have h := hs.ev hfx
    generalize a.eval fx = u at h
    cases h with
    | fn _ _ cs hl _ =>
      obtain rfl : cs = [] := by cases cs with | nil => rfl | cons => simp at hl
      rfl
  have hx : VReps w (fun b => ¬ ¬ qt c s.H g b) g args (xs.toList.map a.eval) := by
    refine ⟨by simpa using (congrArg List.length hargs).symm, fun j u y hu hy => ?_⟩
    have h1 := congrArg (fun l => l[j]?) hargs
    simp only [List.getElem?_map, hu, Option.map_some] at h1 hy
    cases h2 : xs.toList[j]? with
    | none => rw [h2] at h1; cases h1
    | some p =>
      rw [h2] at h1 hy
      simp only [Option.map_some, Option.some.injEq] at h1 hy
      subst hy
      exact (hs.ev h1).mono Cells.rfl (fun b hb _ => not_not_intro hb) (fun r _ => rfl)
  unfold Oper.wp
  rw [exec_call (caps := []) hf ho hfx']
  simp only [Oper.upon, List.append_nil]
  refine (hfn w (fun b => ¬ qt c s.H g b) g _ (hk _ _ hs.below h0) ?_ hx).mono ?_
  · intro b hb
    rcases Classical.em (c.out b) with h | h
    · exact Nat.lt_of_lt_of_le (hs.low b h) hs.below.size
    · rcases Classical.em (∃ r row, fnd s.H r = some row ∧ row.nil = false ∧ (g r).1 = b) with ⟨r, row, h1, h2, rfl⟩ | h'
      · obtain ⟨arr, h3, _⟩ := hs.obj r row h1 h2
        exact (Array.getElem?_eq_some_iff.1 h3).1
      · exact absurd ⟨h, fun r row h1 h2 h3 => h' ⟨r, row, h1, h2, h3⟩⟩ hb
  · rintro e w' ⟨v, x, rfl, h1, h2, h3, h4⟩
    refine hK g _ _ _ ⟨v, h1, h2, rfl⟩ ((hs.move h4).put o.dst (dok_spec hd) ?_) h4
    exact h3.mono Cells.rfl (fun b hb _ => Classical.not_not.1 hb) (fun r _ => rfl)
end
theorem tab_kept (P : Program) (name : String) (k : IntKind) (zs : List Int) : Kept (fun w => Lib.TabIs P w name k zs) := by
  intro w w' hb h
  unfold Lib.TabIs World.var? at h ⊢
  cases hg : P.globalNamed name with
  | none => rw [hg] at h; simp at h
  | some g =>
    rw [hg] at h
    simp only [Option.bind_some] at h ⊢
    cases ho : w.heap[g]? with
    | none => rw [ho] at h; simp at h
    | some ob => rw [hb.block g (Array.getElem?_eq_some_iff.1 ho).1]; exact h
section
variable {c : Cx} {s : S} {o : Oper}
/-- A pointer to an object of the call's own, held against itself. -/
theorem rp_neqp_same {t t' e : TypeId} {sz bt : Nat} {z : Value} {x y : Operand} {r k : Nat} (hu : c.P.underlying t = some (.pointer e)) (hii : Inf c.P e sz bt z) (ho : o.op = .binOp .neq t x y t') (hx : s.ev x = some (.ref r k)) (hy : s.ev y = some (.ref r k)) : RP c o s (.b false) := fun g a w hs => by
  obtain ⟨j, hi, _⟩ := hii.out
  have h1 := hs.ev hx
  have h2 := hs.ev hy
  refine ⟨.bool false, .d _ _ (.p _), fun w' => ?_⟩
  have h3 : a.eval x = .pointer (some ⟨(g r).1, k, none⟩) := by generalize a.eval x = u at h1; cases h1; rfl
  have h4 : a.eval y = .pointer (some ⟨(g r).1, k, none⟩) := by generalize a.eval y = u at h2; cases h2; rfl
  have h := Lib.run_neq_ptr_same w' (P := c.P) ⟨(g r).1, k, none⟩ hu hi
  simp [execOp, ho, h3, h4, eqGuard, h]
theorem rp_eqlp_nil {t t' e : TypeId} {x y : Operand} (hu : c.P.underlying t = some (.pointer e)) (ho : o.op = .binOp .eql t x y t') (hx : s.ev x = some (.d (.p (.pointer none)))) (hy : s.ev y = some (.d (.p (.pointer none)))) : RP c o s (.b true) :=
  rp_ptr (b := true) (.inl rfl) hu ho hx hy fun w q g z hz => by rw [VRep.p_eq hz]; exact ⟨_, rfl, rfl⟩
/-- A pointer to an object of the call's own is not nil. -/
theorem rp_eqlp_own {t t' e : TypeId} {x y : Operand} {r k : Nat} (hu : c.P.underlying t = some (.pointer e)) (ho : o.op = .binOp .eql t x y t') (hx : s.ev x = some (.ref r k)) (hy : s.ev y = some (.d (.p (.pointer none)))) : RP c o s (.b false) :=
  rp_ptr (b := false) (.inl rfl) hu ho hx hy fun w q g z hz => by cases hz; exact ⟨_, rfl, rfl⟩
end
theorem rowAt_count {p : Program} {fits : TypeId → Bool} {e : TypeId} {n : Nat} (h : 1 ≤ n) : ∀ d, rowAt p fits d e n 0 1 = rowAt p fits d e 1 0 1
  | 0 => rfl
  | d + 1 => by
    have h1 : 0 < n := h
    simp only [rowAt, Nat.zero_div, Nat.zero_mod, Nat.zero_add]
    simp [h, h1]
theorem liesAt_count {p : Program} {e u : TypeId} {n : Nat} (h : 1 ≤ n) (hl : rowAt p (fun x => sameLayout p p.depth x u) p.depth e 1 0 1 = true) : liesAt p p.depth e n 0 u 1 = true := by
  cases hd : p.depth with
  | zero => rw [hd] at hl; cases hl
  | succ d =>
    rw [liesAt]
    have h2 := rowAt_count (p := p) (fits := fun x => sameLayout p p.depth x u) (e := e) h p.depth
    rw [h2, hl]
    rfl
section
variable {c : Cx} {s : S} {o : Oper}
theorem shape_own {g : Nat → Nat × Nat} {a : Act} {w : World} {r : Nat} {row : Row} (hs : Sim c g s a w) (hr : fnd s.H r = some row) (hn : row.nil = false) : ∃ n, (∀ w', Below w.heap.size w w' → w'.shape? (g r).1 = some (row.ty, n)) ∧ row.cells.length ≤ n := by
  obtain ⟨arr, h1, _, h2⟩ := hs.obj r row hr hn
  refine ⟨arr.size, fun w' hb => ?_, ?_⟩
  · have h3 := (hb.block _ (Array.getElem?_eq_some_iff.1 h1).1).trans h1
    simp [World.shape?, h3]
  by_cases h0 : row.cells.length = 0
  · omega
  obtain ⟨y, h4, _⟩ := h2 (row.cells.length - 1) _ (List.getElem?_eq_getElem zT13)
  have := (Array.getElem?_eq_some_iff.1 h4).1
  omega
theorem rd_to_unsafe {t t' e : TypeId} {sz bt : Nat} {z : Value} {x : Operand} {r : Nat} {row : Row} (hu : c.P.underlying t = some (.pointer e)) (hu' : c.P.underlying t' = some .unsafePointer) (hii : Inf c.P e sz bt z) (hj : sz ≠ 0) (ho : o.op = .convert t t' x) (hx : s.ev x = some (.ref r 0)) (hr : fnd s.H r = some row) (hn : row.nil = false) (hc : 0 < row.cells.length) : RD c o s (.ref r 0) := fun g a w hs => by
  obtain ⟨j, hi, hi2, hi3, hi4⟩ := hii.out
  obtain ⟨n, h1, h2⟩ := shape_own hs hr hn
  have h3 := hs.ev hx
  refine ⟨.pointer (some ⟨(g r).1, 0, none⟩), .ref _ _, fun w' hb => ?_⟩
  have h4 : a.eval x = .pointer (some ⟨(g r).1, 0, none⟩) := by generalize a.eval x = u at h3; cases h3; rfl
  have h := Lib.run_to_unsafe w' (P := c.P) ⟨(g r).1, 0, none⟩ hu hu' hi zT13 (h1 w' hb) (by show 0 < n; omega)
  simp only [execOp, ho, h4, Sem.run_bind, h, Result.andThen_ok]
  rfl
theorem rd_from_unsafe {t t' u : TypeId} {sz bt : Nat} {z : Value} {x : Operand} {r : Nat} {row : Row} (hu : c.P.underlying t = some .unsafePointer) (hu' : c.P.underlying t' = some (.pointer u)) (hii : Inf c.P u sz bt z) (ho : o.op = .convert t t' x) (hx : s.ev x = some (.ref r 0)) (hr : fnd s.H r = some row) (hn : row.nil = false) (hz : 0 < c.P.cellsOf row.ty) (hc : c.P.cellsOf row.ty ≤ row.cells.length) (hl : rowAt c.P (fun x => sameLayout c.P c.P.depth x u) c.P.depth row.ty 1 0 1 = true) : RD c o s (.ref r 0) := fun g a w hs => by
  obtain ⟨j, hi, hi2, hi3, hi4⟩ := hii.out
  obtain ⟨n, h1, h2⟩ := shape_own hs hr hn
  have h3 := hs.ev hx
  refine ⟨.pointer (some ⟨(g r).1, 0, none⟩), .ref _ _, fun w' hb => ?_⟩
  have h4 : a.eval x = .pointer (some ⟨(g r).1, 0, none⟩) := by generalize a.eval x = u at h3; cases h3; rfl
  have h := Lib.run_from_unsafe w' (P := c.P) ⟨(g r).1, 0, none⟩ hu hu' hi (h1 w' hb) (liesAt_count (Nat.div_pos zT13 hz) hl)
  simp only [execOp, ho, h4, Sem.run_bind, h, Result.andThen_ok]
  rfl
/-- internal/abi.NoEscape: the pointer as it is. -/
theorem rp_noescape {x fx : Operand} {ts : Array TypeId} {f : FuncId} {fn : Func} {r k : Nat} (hf : c.P.funcs[f]? = some fn) (hname : (fn.name == "runtime.NumGoroutine") = false) (hb : fn.body.isNone = true) (hn : Extern.findNext fn = none) (he : Extern.find fn = some Extern.AbiNoEscape.same) (ho : o.op = .call { callee := .value fx, args := #[x], argTypes := ts }) (hfx : s.ev fx = some (.fn f [])) (hx : s.ev x = some (.ref r k)) : RP c o s (.ref r k) := fun g a w hs => by
  have hfx' : a.eval fx = .func (.func f) #[] ([] : List Value).toArray := by
    have h := hs.ev hfx
    generalize a.eval fx = u at h
    cases h with
    | fn _ _ cs hl _ =>
      obtain rfl : cs = [] := by cases cs with | nil => rfl | cons => simp at hl
      rfl
  have h3 := hs.ev hx
  refine ⟨.pointer (some ⟨(g r).1, k, none⟩), .ref _ _, fun w' => ?_⟩
  have h4 : a.eval x = .pointer (some ⟨(g r).1, k, none⟩) := by generalize a.eval x = u at h3; cases h3; rfl
  have h := run_callFunc_extern (P := c.P) hf hname hb hn he #[.pointer (some ⟨(g r).1, k, none⟩)] w'
  have h5 : (Extern.AbiNoEscape.same #[.pointer (some ⟨(g r).1, k, none⟩)]).run c.P w' = .ok (.pointer (some ⟨(g r).1, k, none⟩)) w' := Lib.run_noEscape w' _
  rw [h5] at h
  simp only [execOp, ho, resolve, Deferred.ofValue, hfx', invoke, Sem.run_bind, Sem.run_pure, Result.andThen_ok, List.map_toArray, List.map_cons, List.map_nil, h4]
  simpa using h
end
abbrev V.k (k : IntKind) (n : Int) : V := .d (.p (.int k n))
section
variable {c : Cx} {s : S} {o : Oper}
end
theorem append_str_at {P : Program} (w : World) (t u ty e : TypeId) (i : TypeInfo) (ht : P.underlying t = some (.slice e)) (hu : P.underlying u = some .string) (hi : P.info? e = some i) (hz : i.zero = some (.int .u8 0)) (hsize : i.size = 1) (hby : i.bytes = 1)
    (v : Value) (n : Nat) (xs : List Value) (hown : w.ownsRow 0 e 1 v n xs) (s : ByteArray) (hm : 0 < s.size) (hb : n + s.size ≤ 140737488355328) :
    ∃ v' w', (Builtin.append_ #[t, u] ty #[v, .string s]).run P w = .ok v' w' ∧ w'.ownsRow 0 e 1 v' (n + s.size) (xs ++ Lib.strCells s) ∧ w.grownBy w' v.ownBlock ∧ (v'.ownBlock = v.ownBlock ∨ v'.ownBlock = some w.heap.size) := by
  obtain ⟨v', w', hr, h1, h2, _⟩ := Lib.run_append_own_string (P := P) w 0 t u ty e i ht hu hi hz hsize hby v n xs hown s (by simp only [maxLen]; omega) hb (Nat.zero_le _)
  refine ⟨v', w', hr, h1, h2, ?_⟩
  have hxl : xs.length = n := by simpa using hown.1
  have key : ∀ {v1 : Value} {w1 : World}, (Builtin.append_ #[t, u] ty #[v, .string s]).run P w = .ok v1 w1 → v' = v1 := fun h => by
    rw [hr] at h
    cases h
    rfl
  have hown2 := hown
  rcases hown2.2 with ⟨rfl, hn0⟩ | ⟨g, cap, cur, rfl, hbg, hg, hnc, hcm, hcs, htake⟩
  · right
    have := key (run_append_nil_string (P := P) w t u ty e i (.int .u8 0) ht hu hi hz s hm (by omega) (by rw [hby]; omega))
    subst this
    rfl
  · by_cases hroom : n + s.size ≤ cap
    · left
      have hcs' : cur.size = cap := by simpa using hcs
      have := key (Lib.run_append_room_string (P := P) w t u ty e i ht hu hi hsize g n cap cur hg s hroom (by omega))
      subst this
      rfl
    · right
      have holds : ∀ j u, xs[j]? = some u → w.cell? ((⟨g, 0, none⟩ : Addr).add j) = some u := hown.cells (g := g) rfl
      have := key (Lib.run_append_grow_string (P := P) w t u ty e i (.int .u8 0) ht hu hi hz ⟨g, 0, none⟩ n cap xs (by rw [hsize]; simpa using hxl) holds s (by omega) (by omega) (by rw [hby]; exact growslice_fits (by omega) (by omega)))
      subst this
      rfl
section
variable {c : Cx} {s : S} {o : Oper}
def strV (b : ByteArray) : List V := b.data.toList.map fun x => V.d (.p (.int .u8 (x.toNat : Int)))
theorem strV_len (b : ByteArray) : (strV b).length = b.size := by rw [strV, List.length_map, Array.length_toList]; rfl
theorem strV_app (a b : ByteArray) : strV (a ++ b) = strV a ++ strV b := by
  simp [strV, ByteArray.data_append]
theorem strV_has (r : Nat) (b : ByteArray) : V.hasL r (strV b) = false := by
  rw [V.hasL_false]
  intro v hv
  simp only [strV, List.mem_map] at hv
  obtain ⟨_, _, rfl⟩ := hv
  rfl
/-- append(b, s...), s no empty string, b a slice of bytes of the call's own (nil or not). -/
theorem st_append_str {t u e : TypeId} {x y : Operand} {r n : Nat} {z : Value} {f : Bool} {row : Row} {l1 : List V} {b : ByteArray} (hu : c.P.underlying t = some (.slice e)) (hus : c.P.underlying u = some .string) (hi : Inf c.P e 1 1 (.int .u8 0))
    (ho : o.op = .call { callee := .builtin .append, args := #[x, y], argTypes := #[t, u] }) (hx : s.ev x = some (.own r 1 n f)) (hr : fnd s.H r = some row) (hf : row.nil = f) (hrz : row.sz = 1) (hty : row.ty = e)
    (hl : row.cells.take n = l1) (hl1 : l1.length = n) (hc1 : V.hasL r l1 = false) (hy : s.ev y = some (.s b)) (hm : 0 < b.size) (hb : n + b.size ≤ 140737488355328) (hd : dok s o = true) :
    Step c o s (fun s' => s' = S.put ⟨s.n, (s.forget r).T, (r, ⟨e, l1 ++ strV b, false, 1⟩) :: (s.forget r).H, (s.forget r).K⟩ o.dst (.own r 1 (n + b.size) false)) := by
  intro g a w hs K Q hK
  obtain ⟨i, hi1, hi2, hi3, hi4⟩ := hi.out
  have hyv := VRep.p_eq (hs.ev hy)
  have hown : ∃ xs : List Value, w.ownsRow 0 e 1 (a.eval x) n xs ∧ (∀ (j : Nat) (u : V), l1[j]? = some u → ∃ y, xs[j]? = some y ∧ VRep w (qt c s.H g) g u y) ∧ ∀ b, (a.eval x).ownBlock = some b → row.nil = false ∧ b = (g r).1 := by
    have h := hs.ev hx
    generalize a.eval x = u at h
    cases h with
    | own _ _ _ hn hcap =>
      obtain ⟨arr, h1, h2, h3⟩ := hs.obj r row hr hf
      have hsz' : arr.size = (g r).2 * 1 := by rw [h2 (by omega), hrz]
      refine ⟨arr.toList.take (n * 1), ⟨by simp; omega, .inr ⟨(g r).1, (g r).2, arr, rfl, Nat.zero_le _, by rw [← hty]; exact h1, hn, hcap, hsz', rfl⟩⟩, fun j u hu => ?_, fun b hb => ⟨hf, by simpa [Value.ownBlock] using hb.symm⟩⟩
      have hjl : j < n := by rw [← hl1]; exact (List.getElem?_eq_some_iff.1 hu).1
      rw [← hl, List.getElem?_take_of_lt hjl] at hu
      obtain ⟨y, h4, h5⟩ := h3 j u hu
      exact ⟨y, by rw [List.getElem?_take_of_lt (by omega)]; simpa using h4, h5⟩
    | ownNil =>
      refine ⟨[], ⟨by simp, .inl ⟨rfl, rfl⟩⟩, fun j u hu => ?_, fun b hb => by simp [Value.ownBlock] at hb⟩
      have : l1 = [] := List.eq_nil_of_length_eq_zero hl1
      simp [this] at hu
  obtain ⟨xs, o1, o2, o3⟩ := hown
  obtain ⟨v', w', hrun, r1, r2, r4⟩ := append_str_at (P := c.P) w t u o.type e i hu hus hi1 hi4 hi2 hi3 _ n xs o1 b hm hb
  obtain ⟨q1, q2⟩ := r1
  rcases q2 with ⟨_, h0⟩ | ⟨G, cap, cur, rfl, _, q3, q4, q5, q6, q7⟩
  · omega
  · have hG : row.nil = false ∧ G = (g r).1 ∨ G = w.heap.size := by
      rcases r4 with r4 | r4
      · exact .inl (o3 G (by rw [← r4]; rfl))
      · right; simpa [Value.ownBlock] using r4
    have hxl : xs.length = n := by simpa using o1.1
    have hgrown := Sim.grown hs (row' := ⟨e, l1 ++ strV b, false, 1⟩) (cap := cap) hr hG rfl q3 (fun b hb hne => r2.block b hb (fun e' => (hne (o3 b e'.symm).1) (o3 b e'.symm).2)) r2.size r2.os r2.tape r2.output (by
        rw [hasL_append, hc1, strV_has]; rfl) (fun _ => q6) (by
      intro j v hv
      simp only at hv
      have hcur : ∀ k, k < n + b.size → cur[k]? = (xs ++ Lib.strCells b)[k]? := by
        intro k hk
        rw [← q7, List.getElem?_take_of_lt (by omega)]
        simp
      have hjl : j < n + b.size := by
        have := (List.getElem?_eq_some_iff.1 hv).1
        simp only [List.length_append, strV_len, hl1] at this
        exact this
      rw [hcur j hjl]
      by_cases hj : j < n
      · rw [List.getElem?_append_left (by omega)] at hv ⊢
        exact o2 j v hv
      · rw [List.getElem?_append_right (by omega)] at hv ⊢
        rw [hl1] at hv
        rw [hxl]
        simp only [strV, Lib.strCells, List.getElem?_map] at hv ⊢
        cases hc : b.data.toList[j - n]? with
        | none => rw [hc] at hv; cases hv
        | some q =>
          rw [hc] at hv
          simp only [Option.map_some, Option.some.injEq] at hv
          subst hv
          exact ⟨_, rfl, .d _ _ (.p _)⟩)
    unfold Oper.wp
    have hexec : (execOp a.eval o).run c.P w = .ok (.value (.slice (some ⟨G, 0, none⟩) (n + b.size) cap)) w' := by
      simp only [execOp, ho, resolve, invoke, builtin, Sem.run_bind, Sem.run_pure, Result.andThen_ok, List.map_toArray, List.map_cons, List.map_nil, hyv, hrun]
    rw [hexec]
    refine hK _ _ _ _ rfl (hgrown.put o.dst ?_ ?_)
    · exact dok_spec (s := s) hd
    · have := VRep.own (w := w') (q := qt c ((r, (⟨e, l1 ++ strV b, false, 1⟩ : Row)) :: (s.forget r).H) (fun k => if k = r then (G, cap) else g k)) (g := fun k => if k = r then (G, cap) else g k) r 1 (n + b.size) (by simpa using q4) (by simpa using q5)
      simpa using this
theorem st_append_strF {t u e : TypeId} {x y : Operand} {r n : Nat} {f : Bool} {row : Row} {l1 : List V} {b : ByteArray} (hu : c.P.underlying t = some (.slice e)) (hus : c.P.underlying u = some .string) (hi : Inf c.P e 1 1 (.int .u8 0))
    (ho : o.op = .call { callee := .builtin .append, args := #[x, y], argTypes := #[t, u] }) (hx : s.ev x = some (.own r 1 n f)) (hr : fnd s.H r = some row) (hf : row.nil = f) (hrz : row.sz = 1) (hty : row.ty = e)
    (hl : row.cells = l1) (hl1 : l1.length = n) (hc1 : V.hasL r l1 = false) (hy : s.ev y = some (.s b)) (hm : 0 < b.size) (hb : n + b.size ≤ 140737488355328) (hd : dok s o = true) :
    Step c o s (fun s' => s' = S.put ⟨s.n, (s.forget r).T, (r, ⟨e, l1 ++ strV b, false, 1⟩) :: (s.forget r).H, (s.forget r).K⟩ o.dst (.own r 1 (n + b.size) false)) :=
  st_append_str (z := .int .u8 0) hu hus hi ho hx hr hf hrz hty (by rw [hl, List.take_of_length_le (by omega)]) hl1 hc1 hy hm hb hd
end
end Go.Proofs.YthiknkcigcglkaaDoor
