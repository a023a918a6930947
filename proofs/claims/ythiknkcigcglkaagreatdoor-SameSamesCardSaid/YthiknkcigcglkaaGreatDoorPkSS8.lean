/- Part 8 of what the law SameSames rests on. -/
import Derived.Test.YthiknkcigcglkaaGreatDoorPkSS6
namespace Go.Proofs.YthiknkcigcglkaaGreatDoor
open Go.RowKit
open Bool (and_eq_true)
open List (append_assoc append_nil cons_append ext_getElem? filter_cons getD_eq_getElem?_getD length_append length_map map_append map_cons map_nil map_toArray mem_append mem_map mem_of_getElem? nil_append set_cons_succ set_cons_zero take_of_length_le)
open Nat (le_refl le_trans lt_of_lt_of_le succ_mul zero_add)
open Option (getD_some map_none map_some)
set_option linter.unusedSimpArgs false
set_option linter.unusedVariables false
set_option maxRecDepth 100000
set_option maxHeartbeats 8000000
variable {f : FuncId} {ops : Array Oper} {rest : List Oper} {L0 T' d : List Nat} {b base bt j k p q rb sz : Nat} {T T0 : List (List Bool)} {e i n' : Int} {kd : IntKind} {y : Operand} {sts : List St} {ag : Bool} {l : List Ar}
structure jP3 (w : World) (q : Nat → Prop) (N : Nat) (g : Nat → Nat × Nat) (H : List (Nat × Row)) : Prop where
  nul : ∀ r row, fnd H r = some row → row.nil = true → row.cells = []
  obj : ∀ r row, fnd H r = some row → row.nil = false → ∃ arr : Array Value, w.heap[(g r).1]? = some (.cells arr row.ty (0, 0)) ∧ (row.sz ≠ 0 → arr.size = (g r).2 * row.sz) ∧ ∀ (j : Nat) (v : V), row.cells[j]? = some v → ∃ x, arr[j]? = some x ∧ VRep w (fun b => q b ∧ ∀ r row, fnd H r = some row → row.nil = false → (g r).1 ≠ b) g v x
  inj : ∀ r r' row row', fnd H r = some row → row.nil = false → fnd H r' = some row' → row'.nil = false → (g r).1 = (g r').1 → r = r'
  new : ∀ r row, fnd H r = some row → row.nil = false → N ≤ (g r).1
  closed : ∀ r row k, fnd H r = some row → V.hasL k row.cells = true → ∃ row', (k, row') ∈ H
def FnO (P : Program) (f : FuncId) (args : List V) (post : V → List (Nat × Row) → Prop) : Prop := ∀ (w : World) (out : Nat → Prop) (g : Nat → Nat × Nat) (xs : List Value), (∀ b, out b → b < w.heap.size) → y9 w (fun b => ¬ out b) g args xs →
  Calls P f xs.toArray w fun e w' => ∃ v x g' H, e = .returned x ∧ post v H ∧ (∀ k, v.has k = true → ∃ row', (k, row') ∈ H) ∧ jP3 w' (fun b => ¬ out b) w.heap.size g' H ∧ VRep w' (fun b => ¬ out b ∧ ∀ r row, fnd H r = some row → row.nil = false → (g' r).1 ≠ b) g' v x ∧ Below w.heap.size w w'
def QFO (P : Program) (rs : List ResultVar) (post : V → List (Nat × Row) → Prop) : Exit → S → Prop
  | .normal, s => ∃ vs H, uX P s rs vs ∧ LH s H ∧ post (zZ vs) H ∧ (∀ k, (zZ vs).has k = true → ∃ row', (k, row') ∈ H) ∧ ∀ r row k, fnd H r = some row → V.hasL k row.cells = true → ∃ row', (k, row') ∈ H
  | .ret, s => ∃ vs H, uX P s rs vs ∧ LH s H ∧ post (zZ vs) H ∧ (∀ k, (zZ vs).has k = true → ∃ row', (k, row') ∈ H) ∧ ∀ r row k, fnd H r = some row → V.hasL k row.cells = true → ∃ row', (k, row') ∈ H
  | _, _ => False
theorem FnO.intro {P : Program} {f : FuncId} {fn : Func} {code : Code} {n : Nat} {rs : List ResultVar} {args : List V} {post : V → List (Nat × Row) → Prop} (hf : Is P f fn code n rs) (hp : ∀ v ∈ args, v.pure) (hn : args.length ≤ n)
    (h : ∀ w0 out, AW ⟨P, w0, out, [], []⟩ code (QFO P rs post) ⟨n, vV 0 args, [], []⟩) : FnO P f args post := by
  intro w out g xs bE hx; refine calls_of_wp hf.func hf.body ?_
  have hs : Sim ⟨P, w, out, [], []⟩ g ⟨n, vV 0 args, [], []⟩ { tmps := xs.toArray ++ Array.replicate (fn.ntmps - xs.toArray.size) undef, defers := [] } w := by
    refine ⟨?_, rfl, ?_, by simp [fnd], by simp [fnd], by simp, by simp [fnd], by simp [fnd], bE, Below.refl _ _⟩
    · simp [hf.ntmps, ← hx.1]; omega
    intro i v hv; obtain ⟨_, h2⟩ := bD args 0 i v hv; simp only [Nat.sub_zero] at h2; have hi : i < xs.length := by rw [← hx.1]; exact (List.getElem?_eq_some_iff.1 h2).1
    refine ⟨xs[i], ?_, ?_⟩
    · grind
    refine (hx.2 i v _ h2 (List.getElem?_eq_getElem hi)).mono Cells.rfl (fun b hb _ => ⟨hb, by simp [fnd]⟩) (fun r _ => rfl)
  refine wp_mono (h w out g _ w hs) fun e a' w' hq => ?_; obtain ⟨g', s', h1, h2⟩ := hq
  have fin : (∃ vs H, uX P s' rs vs ∧ LH s' H ∧ post (zZ vs) H ∧ (∀ k, (zZ vs).has k = true → ∃ row', (k, row') ∈ H) ∧ ∀ r row k, fnd H r = some row → V.hasL k row.cells = true → ∃ row', (k, row') ∈ H) →
      a'.defers = [] ∧ ∃ v, (results fn a'.tmps).run P w' = .ok v w' ∧ ∃ v_1 x g' H, Ending.returned v = .returned x ∧ post v_1 H ∧ (∀ k, v_1.has k = true → ∃ row', (k, row') ∈ H) ∧ jP3 w' (fun b => ¬ out b) w.heap.size g' H ∧ VRep w' (fun b => ¬ out b ∧ ∀ r row, fnd H r = some row → row.nil = false → (g' r).1 ≠ b) g' v_1 x ∧ Below w.heap.size w w' := by
    rintro ⟨vs, H, k1, k2, k3, k4, k5⟩; obtain ⟨x, k6, k7⟩ := uD (c := ⟨P, w, out, [], []⟩) hf.results h2 k1
    have hq : ∀ b, qt ⟨P, w, out, [], []⟩ s'.H g' b → b < w'.heap.size → ¬ out b ∧ ∀ r row, fnd H r = some row → row.nil = false → (g' r).1 ≠ b := fun b hb _ => ⟨hb.1, fun r row hr hn => hb.2 r row (k2.get r row hr) hn⟩
    have hm : ∀ {v x}, VRep w' (qt ⟨P, w, out, [], []⟩ s'.H g') g' v x → VRep w' (fun b => ¬ out b ∧ ∀ r row, fnd H r = some row → row.nil = false → (g' r).1 ≠ b) g' v x := fun hv => hv.mono Cells.rfl hq (fun _ _ => rfl)
    refine ⟨h2.defers, x, k7, _, x, g', H, rfl, k3, k4, ⟨fun r row hr hn => h2.nul r row (k2.get r row hr) hn, fun r row hr hn => ?_, fun r r' row row' a1 a2 a3 a4 a5 => h2.inj r r' row row' (k2.get r row a1) a2 (k2.get r' row' a3) a4 a5, fun r row hr hn => h2.base r row (k2.get r row hr) hn, k5⟩, hm k6, h2.below⟩
    obtain ⟨arr, a1, a2, a3⟩ := h2.obj r row (k2.get r row hr) hn; refine ⟨arr, a1, a2, fun j v hv => ?_⟩; obtain ⟨y, a4, a5⟩ := a3 j v hv; exact ⟨y, a4, hm a5⟩
  cases e with
  | normal => exact fin h1
  | ret => exact fin h1
  | _ => exact h1.elim
section
variable {c : Cx} {s : S} {o : Oper}
theorem q65 {fx : Operand} {xs : Array Operand} {ts : Array TypeId} {fn : Func} {code : Code} {n : Nat} {rs : List ResultVar} {args : List V} {post : V → List (Nat × Row) → Prop} (xY : FnO c.P f args post) (hf : Is c.P f fn code n rs) (ho : o.op = .call { callee := .value fx, args := xs, argTypes := ts })
    (wc : s.ev fx = some (.fn f [])) (xJ : xs.toList.map s.ev = args.map some) (hd : dok s o = true) (hfr : ∀ v H, post v H → H.all (fun x => s.clean x.1) = true) : StepM c o s (fun s' => ∃ v H, post v H ∧ s' = S.put ⟨s.n, s.T, H ++ s.H, s.K⟩ o.dst v) := by
  intro g a w hs K Q hK
  have uY : a.eval fx = .func (.func f) #[] ([] : List Value).toArray := by
    have h := hs.ev wc; generalize a.eval fx = u at h
    cases h with
    | fn _ _ cs hl _ =>
      obtain rfl : cs = [] := by cases cs with | nil => rfl | cons => simp at hl
      rfl
  have hx : y9 w (fun b => ¬ ¬ qt c s.H g b) g args (xs.toList.map a.eval) := by
    refine ⟨by simpa using (congrArg List.length xJ).symm, fun j u y hu hy => ?_⟩; have h1 := congrArg (fun l => l[j]?) xJ; simp only [List.getElem?_map, hu, map_some] at h1 hy
    cases h2 : xs.toList[j]? with
    | none => rw [h2] at h1; cases h1
    | some p =>
      rw [h2] at h1 hy; simp only [map_some, Option.some.injEq] at h1 hy; subst hy
      exact (hs.ev h1).mono Cells.rfl (fun b hb _ => not_not_intro hb) (fun r _ => rfl)
  unfold Oper.wp; rw [wj (caps := []) hf ho uY]; simp only [Oper.upon, append_nil]; refine (xY w (fun b => ¬ qt c s.H g b) g _ ?_ hx).mono ?_
  · intro b hb
    rcases Classical.em (c.out b) with h | h
    · exact lt_of_lt_of_le (hs.low b h) hs.below.size
    rcases Classical.em (∃ r row, fnd s.H r = some row ∧ row.nil = false ∧ (g r).1 = b) with ⟨r, row, h1, h2, rfl⟩ | h'
    · obtain ⟨arr, h3, _⟩ := hs.obj r row h1 h2
      exact (Array.getElem?_eq_some_iff.1 h3).1
    exact absurd ⟨h, fun r row h1 h2 h3 => h' ⟨r, row, h1, h2, h3⟩⟩ hb
  rintro e w' ⟨v, x, g', H, rfl, h1, xM, hO, h3, h4⟩
  have qx4 : ∀ k row, (k, row) ∈ H → s.clean k = true := fun k row hk => List.all_eq_true.1 (hfr v H h1) _ hk
  classical
  let G : Nat → Nat × Nat := fun k => if (fnd H k).isSome then g' k else g k
  have hG1 : ∀ k row, fnd H k = some row → G k = g' k := fun k row hk => by simp [G, hk]
  have qa7 : ∀ k row, (k, row) ∈ H → ∃ row', fnd H k = some row' := by
    intro k row hk
    have : ∀ (l : List (Nat × Row)), (k, row) ∈ l → ∃ row', fnd l k = some row' := by
      intro l
      induction l with
      | nil => intro h; cases h
      | cons y l ih =>
        intro h; simp only [fnd]
        split
        · exact ⟨_, rfl⟩
        grind
    exact this H hk
  have hG2 : ∀ k, (∃ row, (k, row) ∈ H) → G k = g' k := fun k ⟨row, hk⟩ => by obtain ⟨row', h⟩ := qa7 k row hk; exact hG1 k row' h
  have hG3 : ∀ k row, fnd s.H k = some row → G k = g k := by
    intro k row hk
    have : fnd H k = none := by
      cases hh : fnd H k with
      | none => rfl
      | some row' => exact absurd rfl (S.clean_obj (qx4 k row' (vo hh)) hk).1
    simp [G, this]
  have hG4 : ∀ u : V, (∀ k row, (k, row) ∈ H → u.has k = false) → ∀ k, u.has k = true → G k = g k := by
    intro u hu k hk
    have : fnd H k = none := by
      cases hh : fnd H k with
      | none => rfl
      | some row' => have := hu k row' (vo hh); rw [hk] at this; cases this
    simp [G, this]
  have xY : ∀ k row, fnd (H ++ s.H) k = some row → fnd H k = some row ∨ fnd H k = none ∧ fnd s.H k = some row := by
    intro k row hk
    have k50 : ∀ (l l' : List (Nat × Row)) (i : Nat), fnd (l ++ l') i = match fnd l i with | some v => some v | none => fnd l' i := by
      intro l l' i
      induction l with
      | nil => simp [fnd]
      | cons y l ih => simp only [cons_append, fnd]; split; rfl; exact ih
    rw [k50] at hk
    cases hh : fnd H k with
    | some row' => rw [hh] at hk; exact .inl hk
    | none => rw [hh] at hk; exact .inr ⟨rfl, hk⟩
  have zk : ∀ {b o}, w.heap[b]? = some o → b < w.heap.size := fun h => (Array.getElem?_eq_some_iff.1 h).1
  have hq1 : ∀ b, qt c s.H g b → b < w.heap.size → qt c (H ++ s.H) G b := by
    intro b hb hbl; refine ⟨hb.1, fun k row hk hn => ?_⟩
    rcases xY k row hk with h | ⟨_, h⟩
    · rw [hG1 k row h]
      have := hO.new k row h hn; omega
    rw [hG3 k row h]; exact hb.2 k row h hn
  have hq2 : ∀ b, (¬ ¬ qt c s.H g b ∧ ∀ r row, fnd H r = some row → row.nil = false → (g' r).1 ≠ b) → b < w'.heap.size → qt c (H ++ s.H) G b := by
    intro b hb _; have hb1 := Classical.not_not.1 hb.1; refine ⟨hb1.1, fun k row hk hn => ?_⟩
    rcases xY k row hk with h | ⟨_, h⟩
    · rw [hG1 k row h]
      exact hb.2 k row h hn
    rw [hG3 k row h]; exact hb1.2 k row h hn
  have jP4 : Cells w w' (qt c s.H g) := ⟨h4.size, fun b o u _ h1 h2 => (h4.cell (p := ⟨b, o, none⟩) h1).trans h2, Below.maps h4⟩
  have uJ : ∀ {u y}, (∀ k row, (k, row) ∈ H → V.has k u = false) → VRep w (qt c s.H g) g u y → VRep w' (qt c (H ++ s.H) G) G u y := fun hu hy => hy.mono jP4 hq1 (hG4 _ hu)
  have vY : ∀ {u y}, (∀ k, V.has k u = true → ∃ row, (k, row) ∈ H) → VRep w' (fun b => ¬ ¬ qt c s.H g b ∧ ∀ r row, fnd H r = some row → row.nil = false → (g' r).1 ≠ b) g' u y → VRep w' (qt c (H ++ s.H) G) G u y := fun hu hy =>
    hy.mono Cells.rfl hq2 (fun k hk => hG2 k (hu k hk))
  have bG : Sim c G ⟨s.n, s.T, H ++ s.H, s.K⟩ a w' := by
    refine ⟨hs.size, hs.defers, ?_, ?_, ?_, ?_, ?_, ?_, hs.low, hs.below.trans (h4.mono hs.below.size)⟩
    · intro i u hu
      obtain ⟨y, a1, a2⟩ := hs.tmp i u hu
      exact ⟨y, a1, uJ (fun k row hk => S.clean_tmp (qx4 k row hk) hu) a2⟩
    · intro k row hk hn
      rcases xY k row hk with h | ⟨_, h⟩
      · exact hO.nul k row h hn
      exact hs.nul k row h hn
    · intro k row hk hn
      rcases xY k row hk with h | ⟨_, h⟩
      · obtain ⟨arr, a1, a2, a3⟩ := hO.obj k row h hn
        refine ⟨arr, by rw [hG1 k row h]; exact a1, by rw [hG1 k row h]; exact a2, fun j u hu => ?_⟩; obtain ⟨y, a4, a5⟩ := a3 j u hu; refine ⟨y, a4, vY (fun k' hk' => ?_) a5⟩; refine hO.closed k row k' h ?_
        cases hh : V.hasL k' row.cells with
        | true => rfl
        | false => have := V.hasL_false.1 hh u (mem_of_getElem? hu); rw [hk'] at this; cases this
      obtain ⟨arr, a1, a2, a3⟩ := hs.obj k row h hn; refine ⟨arr, by rw [hG3 k row h]; exact (h4.block _ (zk a1)).trans a1, by rw [hG3 k row h]; exact a2, fun j u hu => ?_⟩; obtain ⟨y, a4, a5⟩ := a3 j u hu; exact ⟨y, a4, uJ (fun k' row' hk' => (S.clean_obj (qx4 k' row' hk') h).2 u (mem_of_getElem? hu)) a5⟩
    · intro j u y a1 a2
      exact uJ (fun k row hk => S.clean_keep (qx4 k row hk) a1) (hs.keep j u y a1 a2)
    · intro k k' row row' b1 n1 b2 n2 b3
      rcases xY k row b1 with c1 | ⟨_, c1⟩ <;> rcases xY k' row' b2 with c2 | ⟨_, c2⟩
      · rw [hG1 k row c1, hG1 k' row' c2] at b3
        exact hO.inj k k' row row' c1 n1 c2 n2 b3
      · rw [hG1 k row c1, hG3 k' row' c2] at b3
        have d1 := hO.new k row c1 n1; obtain ⟨arr, d2, _⟩ := hs.obj k' row' c2 n2; have := zk d2; omega
      · rw [hG3 k row c1, hG1 k' row' c2] at b3
        have d1 := hO.new k' row' c2 n2; obtain ⟨arr, d2, _⟩ := hs.obj k row c1 n1; have := zk d2; omega
      rw [hG3 k row c1, hG3 k' row' c2] at b3; exact hs.inj k k' row row' c1 n1 c2 n2 b3
    intro k row b1 n1
    rcases xY k row b1 with c1 | ⟨_, c1⟩
    · rw [hG1 k row c1]
      have := hO.new k row c1 n1; have := hs.below.size; omega
    rw [hG3 k row c1]; exact hs.base k row c1 n1
  refine hK G _ _ _ ⟨v, H, h1, rfl⟩ (bG.put o.dst (zJ (s := s) hd) (vY xM h3)) h4
theorem j4 {Q : Exit → S → Prop} {post : V → List (Nat × Row) → Prop} (hg : o.guard = none) (h : StepM c o s (fun s' => ∃ v H, post v H ∧ s' = S.put ⟨s.n, s.T, H ++ s.H, s.K⟩ o.dst v)) (hN : ∀ v H, post v H → AL c ops rest Q (S.put ⟨s.n, s.T, H ++ s.H, s.K⟩ o.dst v)) : AL c ops (o :: rest) Q s :=
  j9 hg fun g a w hs K Q' hK => h g a w hs K Q' fun g' s' a' w' ⟨v, H, h1, e⟩ h3 h4 => hK g' s' a' w' (by subst e; exact hN v H h1) h3 h4
end
theorem FnO.mach {P : Program} {args : List V} {post : V → List (Nat × Row) → Prop} (m : zr) (j : Nat) (hj : args[j]? = some (mV m)) (h : m.states.length ≤ 4398046511104 → (∀ x ∈ m.states, x.arcs.length ≤ 4398046511104) → FnO P f args post) : FnO P f args post := by
  intro w out g xs ho hx; have zk : j < xs.length := by rw [← hx.1]; exact (List.getElem?_eq_some_iff.1 hj).1
  have hv := hx.2 j _ _ hj (List.getElem?_eq_getElem zk); generalize xs[j] = y at hv
  cases hv with
  | agg _ cs hl hh =>
    have hc : 1 < cs.length := by simp at hl; omega
    have h1 := hh 1 _ cs[1] rfl (List.getElem?_eq_getElem hc)
    cases h1 with
    | d _ _ h2 =>
      have h3 := h2.bound; simp only [length_map] at h3; refine h zg (fun x hx => ?_) w out g xs ho hx; obtain ⟨i, hi⟩ := List.getElem?_of_mem hx; obtain ⟨z, h4⟩ := h2.row (i := i) (j := 1) (row := stD x) (by simp [hi]) rfl; have h5 := h4.bound; simp only [length_map] at h5; omega
section
variable {c : Cx} {s : S} {o : Oper} {α : Type}
end
def big : Nat := 1152921504606846976
theorem yz : big = 1152921504606846976 := rfl
section
variable (Init : Nat → Nat → Prop) (Edge : Nat → Nat → Nat → Prop)
inductive Pth : Nat → Nat → Prop
  | init (q d : Nat) (h : Init q d) : Pth q d
  | step (q p d w : Nat) (h : Pth q d) (e : Edge q p w) : Pth p (d + w)
structure Snd (n : Nat) (L : List Nat) : Prop where
  len : L.length = n
  le : ∀ (q x : Nat), L[q]? = some x → x ≤ big
  path : ∀ (q x : Nat), L[q]? = some x → x < big → Pth Init Edge q x
  init : ∀ (q x d : Nat), L[q]? = some x → Init q d → x ≤ d
def Lst (n : Nat) (L : List Nat) : Prop := Snd Init Edge n L ∧ ∀ (q x d : Nat), L[q]? = some x → Pth Init Edge q d → x ≤ d
open Classical in
noncomputable def dst (q : Nat) : Nat := if h : ∃ d, d < big ∧ Pth Init Edge q d then Classical.choose (gS h) else big
noncomputable def ws (n : Nat) : List Nat := (List.range n).map (dst Init Edge)
variable {Init : Nat → Nat → Prop} {Edge : Nat → Nat → Nat → Prop} {n : Nat} {L L' : List Nat}
theorem bP (q : Nat) : dst Init Edge q ≤ big ∧ (dst Init Edge q < big → Pth Init Edge q (dst Init Edge q)) ∧ ∀ d, Pth Init Edge q d → dst Init Edge q ≤ d := by
  unfold dst
  split
  · grind
  grind
theorem Lst.eq (h : Lst Init Edge n L) : L = ws Init Edge n := by
  obtain ⟨hs, hm⟩ := h; refine ext_getElem? fun q => ?_
  by_cases hq : q < n
  · obtain ⟨v, e1⟩ : ∃ v, L[q]? = some v := ⟨_, List.getElem?_eq_getElem (by rw [hs.len]; exact hq)⟩
    obtain ⟨d1, d2, d3⟩ := bP (Init := Init) (Edge := Edge) q; have h1 := hs.le q _ e1
    have : v = dst Init Edge q := by
      by_cases hb : v < big
      · have h2 := d3 _ (hs.path q _ e1 hb)
        have h3 := hm q _ _ e1 (d2 zg); omega
      grind
    rw [e1, this]; simp [ws, List.getElem?_range hq]
  rw [List.getElem?_eq_none (by rw [hs.len]; omega), List.getElem?_eq_none (by simp [ws]; omega)]
theorem Lst.of_closed (hs : Snd Init Edge n L) (w3 : ∀ q p w, Edge q p w → q < n) (hc : ∀ (q p w x y : Nat), Edge q p w → L[q]? = some x → x < big → L[p]? = some y → y ≤ x + w) : Lst Init Edge n L := by
  refine ⟨hs, fun q x d hx hp => ?_⟩
  induction hp generalizing x with
  | init q d h => exact hs.init q x d hx h
  | step q p d w h e ih =>
    have hq := w3 q p w e; have hl : q < L.length := by rw [hs.len]; exact hq
    have e1 : L[q]? = some L[q] := List.getElem?_eq_getElem hl; have h1 := ih L[q] e1
    by_cases hb : L[q] < big
    · have := hc q p w _ _ e e1 hb hx
      omega
    have := hs.le p x hx; omega
theorem Snd.set (hs : Snd Init Edge n L) {q p w x : Nat} (e : Edge q p w) (hx : L[q]? = some x) (hb : x < big) (zk : ∀ y : Nat, L[p]? = some y → x + w < y) : Snd Init Edge n (L.set p (x + w)) := by
  have k51 : Pth Init Edge p (x + w) := .step q p x w (hs.path q x hx hb) e; refine ⟨by simpa using hs.len, fun r y hy => ?_, fun r y hy hb' => ?_, fun r y d hy hi => ?_⟩
  all_goals
    rw [List.getElem?_set] at hy
    split at hy
    · rename_i er
      subst er
      split at hy
      · rename_i wl
        simp only [Option.some.injEq] at hy; subst hy; have h0 := zk L[p] (List.getElem?_eq_getElem wl); have h1 := hs.le p _ (List.getElem?_eq_getElem wl)
        first
          | omega
          | exact k51
          | (have h2 := hs.init p _ d (List.getElem?_eq_getElem wl) hi; omega)
      cases hy
    first
      | exact hs.le r y hy
      | exact hs.path r y hy hb'
      | exact hs.init r y d hy hi
def Stl (Init : Nat → Nat → Prop) (Edge : Nat → Nat → Nat → Prop) (L : List Nat) (p : Nat) : Prop := ∀ (x d : Nat), L[p]? = some x → Pth Init Edge p d → x ≤ d
open Classical in
noncomputable def ql4 (Init : Nat → Nat → Prop) (Edge : Nat → Nat → Nat → Prop) (L : List Nat) (n : Nat) : Nat := ((List.range n).filter fun p => decide (Stl Init Edge L p)).length
theorem js4 (hs : Snd Init Edge n L) (w3 : ∀ q p w, Edge q p w → q < n) {p d : Nat} (hp : Pth Init Edge p d) : (∀ d', Pth Init Edge p d' → d ≤ d') → Stl Init Edge L p ∨
    ∃ q r w x, Edge q r w ∧ L[q]? = some x ∧ Stl Init Edge L q ∧ ¬ Stl Init Edge L r ∧ ∀ d', Pth Init Edge r d' → x + w ≤ d' := by
  induction hp with
  | init q d h =>
    intro hm; refine .inl fun x d' hx hd' => ?_; have h1 := hs.init q x d hx h; have h2 := hm d' hd'; omega
  | step q p d w h e ih =>
    intro hm; have hq := w3 q p w e; have hl : q < L.length := by rw [hs.len]; exact hq
    have e1 : L[q]? = some L[q] := List.getElem?_eq_getElem hl
    have hm' : ∀ d', Pth Init Edge q d' → d ≤ d' := fun d' hd' => by have := hm _ (.step q p d' w hd' e); omega
    rcases ih hm' with hq' | h'
    · grind [Stl]
    exact .inr h'
theorem jc8 {d : Nat} (h : Pth Init Edge p d) : ∃ d0, Pth Init Edge p d0 ∧ ∀ d', Pth Init Edge p d' → d0 ≤ d' := gS ⟨d, h⟩
theorem ji5 {P Q : Nat → Bool} {l : List Nat} (h : ∀ x ∈ l, P x = true → Q x = true) {x : Nat} (hx : x ∈ l) (hQ : Q x = true) (hP : P x = false) : (l.filter P).length + 1 ≤ (l.filter Q).length := by
  have mono : ∀ l : List Nat, (∀ x ∈ l, P x = true → Q x = true) → (l.filter P).length ≤ (l.filter Q).length := by
    intro l
    induction l with
    | nil => simp
    | cons y l ih =>
      intro h
      have h1 := ih fun x hx => h x (by simp [hx])
      have h2 := h y zx; simp only [filter_cons]
      cases hp : P y <;> cases hq : Q y <;> simp_all <;> omega
  induction l with
  | nil => cases hx
  | cons y l ih =>
    simp only [filter_cons]
    rcases List.mem_cons.1 hx with rfl | hx
    · grind
    grind
structure Rd (Init : Nat → Nat → Prop) (Edge : Nat → Nat → Nat → Prop) (n k : Nat) (L0 : List Nat) (D : Nat → Nat → Nat → Prop) (L : List Nat) : Prop where
  snd : Snd Init Edge n L
  snd0 : Snd Init Edge n L0
  low : ∀ (q x x0 : Nat), L[q]? = some x → L0[q]? = some x0 → x ≤ x0
  cnt : k ≤ ql4 Init Edge L0 n ∨ Lst Init Edge n L0
  seen : ∀ (q p w x y : Nat), D q p w → Edge q p w → L0[q]? = some x → L[p]? = some y → y ≤ x + w
theorem Rd.begin (hs : Snd Init Edge n L) (hc : k ≤ ql4 Init Edge L n ∨ Lst Init Edge n L) : Rd Init Edge n k L (fun _ _ _ => False) L :=
  ⟨hs, hs, fun q x x0 h1 h2 => by rw [h1] at h2; simp at h2; omega, hc, fun _ _ _ _ _ h => h.elim⟩
theorem Rd.skip {D D' : Nat → Nat → Nat → Prop} (h : Rd Init Edge n k L0 D L) (hd : ∀ (q p w x y : Nat), D' q p w → D q p w ∨ (Edge q p w → L0[q]? = some x → L[p]? = some y → y ≤ x + w)) : Rd Init Edge n k L0 D' L :=
  ⟨h.snd, h.snd0, h.low, h.cnt, fun q p w x y h1 h2 h3 h4 => by
    rcases hd q p w x y h1 with h5 | h5
    · exact h.seen q p w x y h5 h2 h3 h4
    exact h5 h2 h3 h4⟩
theorem Rd.set {k q0 p0 w0 x0 : Nat} {L0 : List Nat} {D D' : Nat → Nat → Nat → Prop} (h : Rd Init Edge n k L0 D L) (e : Edge q0 p0 w0) (hx : L[q0]? = some x0) (hb : x0 < big) (zk : ∀ y : Nat, L[p0]? = some y → x0 + w0 < y) (hp0 : p0 < n)
    (hd : ∀ q p w, D' q p w → D q p w ∨ (q = q0 ∧ p = p0 ∧ w = w0)) : Rd Init Edge n k L0 D' (L.set p0 (x0 + w0)) := by
  have vW : ∀ (q x x1 : Nat), (L.set p0 (x0 + w0))[q]? = some x → L[q]? = some x1 → x ≤ x1 := by grind
  have wP : ∀ q, q < n → ∃ x, L[q]? = some x := fun q hq => ⟨L[q]'(by rw [h.snd.len]; exact hq), List.getElem?_eq_getElem _⟩; have xn : ∀ (q x : Nat), (L.set p0 (x0 + w0))[q]? = some x → q < n := fun q x hq => by have := (List.getElem?_eq_some_iff.1 hq).1; rw [List.length_set, h.snd.len] at this; exact this
  refine ⟨h.snd.set e hx hb zk, h.snd0, fun q x x1 h1 h2 => ?_, h.cnt, fun q p w x y h1 h2 h3 h4 => ?_⟩
  · obtain ⟨z, hz⟩ := wP q (xn q x h1)
    have a1 := vW q x z h1 hz; have a2 := h.low q z x1 hz h2; omega
  obtain ⟨z, hz⟩ := wP p (xn p y h4); have a1 := vW p y z h4 hz
  rcases hd q p w h1 with h5 | ⟨rfl, rfl, rfl⟩
  · have := h.seen q p w x z h5 h2 h3 hz
    omega
  have a2 := h.low q x0 x hx h3; rw [List.getElem?_set_self (by rw [h.snd.len]; exact hp0)] at h4; simp only [Option.some.injEq] at h4; omega
open Classical in
theorem Rd.finish {D : Nat → Nat → Nat → Prop} (h : Rd Init Edge n k L0 D L) (w3 : ∀ q p w, Edge q p w → q < n ∧ p < n) (ql5 : ∀ q d, Init q d → q < n) (hd : ∀ q p w, Edge q p w → D q p w) : Snd Init Edge n L ∧ (k + 1 ≤ ql4 Init Edge L n ∨ Lst Init Edge n L) := by
  refine ⟨h.snd, ?_⟩; have wP : ∀ (M : List Nat), M.length = n → ∀ q, q < n → ∃ x, M[q]? = some x := fun M hM q hq => ⟨M[q]'(by rw [hM]; exact hq), List.getElem?_eq_getElem _⟩
  have jB8 : ∀ p, Stl Init Edge L0 p → Stl Init Edge L p := by
    intro p hp x d hx hpd; have wa : p < n := by have := (List.getElem?_eq_some_iff.1 hx).1; rw [h.snd.len] at this; exact this
    obtain ⟨x0, hx0⟩ := wP L0 h.snd0.len p wa; have a1 := h.low p x x0 hx hx0; have a2 := hp x0 d hx0 hpd; omega
  by_cases xE : ∀ p, p < n → Stl Init Edge L0 p
  · exact .inr ⟨h.snd, fun q x d hx hp => jB8 q (xE q (by have := (List.getElem?_eq_some_iff.1 hx).1; rw [h.snd.len] at this; exact this)) x d hx hp⟩
  have hk : k ≤ ql4 Init Edge L0 n := by
    rcases h.cnt with hc | hc
    · exact hc
    exact absurd (fun p _ x d hx hp => hc.2 p x d hx hp) xE
  obtain ⟨p, hp⟩ := Classical.not_forall.1 xE; obtain ⟨wa, hps⟩ := Classical.not_imp.1 hp
  obtain ⟨d, hpd⟩ : ∃ d, Pth Init Edge p d := by
    refine Classical.byContradiction fun vO => hps fun x d _ hd => (vO ⟨d, hd⟩).elim
  obtain ⟨d0, h1, h2⟩ := jc8 hpd
  rcases js4 h.snd0 (fun q p w e => (w3 q p w e).1) h1 h2 with h3 | ⟨q, r, w, x, e, hx, hq, hr, qC8⟩
  · exact absurd h3 hps
  have hrn := (w3 q r w e).2; obtain ⟨y, hy⟩ := wP L h.snd.len r hrn
  have hry : Stl Init Edge L r := fun y' d' hy' hd' => by
    rw [hy] at hy'; simp only [Option.some.injEq] at hy'; subst hy'; have a1 := h.seen q r w x y (hd q r w e) e hx hy; have a2 := qC8 d' hd'; omega
  left
  have := ji5 (P := fun p => decide (Stl Init Edge L0 p)) (Q := fun p => decide (Stl Init Edge L p)) (l := List.range n) (fun x _ hx => by simpa using jB8 x (by simpa using hx)) (List.mem_range.2 hrn) (by simpa using hry) (by simpa using hr)
  unfold ql4 at hk ⊢; omega
open Classical in
theorem Rd.all (hs : Snd Init Edge n L) (hc : k ≤ ql4 Init Edge L n ∨ Lst Init Edge n L) (hk : n ≤ k) : L = ws Init Edge n := by
  rcases hc with hc | hc
  · refine Lst.eq ⟨hs, fun q x d hx hp => ?_⟩
    have hq : q < n := by have := (List.getElem?_eq_some_iff.1 hx).1; rw [hs.len] at this; exact this
    have wR : ∀ p ∈ List.range n, decide (Stl Init Edge L p) = true := by grind [List.range, Stl, List.length_filter_le, ql4, List.length_range, List.length_filter_eq_length_iff]
    have := wR q (List.mem_range.2 hq); exact (of_decide_eq_true this) x d hx hp
  exact hc.eq
structure Que (Init : Nat → Nat → Prop) (Edge : Nat → Nat → Nat → Prop) (n : Nat) (X : Nat → Prop) (L : List Nat) (T : List Nat) : Prop where
  snd : Snd Init Edge n L
  fin : ∀ q ∈ T, ∃ x : Nat, L[q]? = some x ∧ x < big
  nodup : T.Nodup
  edge : ∀ (q p w x y : Nat), q ∉ T → ¬ X q → Edge q p w → L[q]? = some x → x < big → L[p]? = some y → y ≤ x + w
theorem Que.done {T : List Nat} (h : Que Init Edge n (fun _ => False) L T) (hT : T = []) (w3 : ∀ q p w, Edge q p w → q < n) : L = ws Init Edge n :=
  (Lst.of_closed h.snd w3 fun q p w x y e hx hb hy => h.edge q p w x y (by simp [hT]) zx e hx hb hy).eq
theorem Que.take {T : List Nat} (h : Que Init Edge n (fun _ => False) L (q :: T)) : q ∉ T ∧ Que Init Edge n (fun x => x = q) L T := by
  have hn := List.nodup_cons.1 h.nodup
  exact ⟨hn.1, h.snd, fun x hx => h.fin x (by simp [hx]), hn.2, fun x p w a b h1 h2 h3 h4 h5 h6 => h.edge x p w a b (by simp [h1]; exact h2) zx h3 h4 h5 h6⟩
theorem Que.settle {T : List Nat} (h : Que Init Edge n (fun x => x = q) L T) (hq : ∀ (p w x y : Nat), Edge q p w → L[q]? = some x → L[p]? = some y → y ≤ x + w) : Que Init Edge n (fun _ => False) L T :=
  ⟨h.snd, h.fin, h.nodup, fun r p w a b h1 _ h3 h4 h5 h6 => by
    by_cases e : r = q
    · subst e; exact hq p w a b h3 h4 h6
    exact h.edge r p w a b h1 e h3 h4 h5 h6⟩
theorem Que.less {T : List Nat} {w x : Nat} (h : Que Init Edge n (fun z => z = q) L T) (e : Edge q p w) (hx : L[q]? = some x) (hb : x < big) (hp : p < n) (zk : ∀ y : Nat, L[p]? = some y → x + w < y) (hT : T' = if p ∈ T then T else T ++ [p]) : Que Init Edge n (fun z => z = q) (L.set p (x + w)) T' := by
  have wl : p < L.length := by rw [h.snd.len]; exact hp
  have hpT : p ∈ T' := by rw [hT]; split <;> simp_all
  have k52 : ∀ r, r ∉ T' → r ∉ T ∧ r ≠ p := by grind
  have hb2 : x + w < big := by
    have h1 := zk L[p] (List.getElem?_eq_getElem wl); have h2 := h.snd.le p _ (List.getElem?_eq_getElem wl); omega
  refine ⟨h.snd.set e hx hb zk, fun r hr => ?_, ?_, fun r s v a b h1 h2 h3 h4 h5 h6 => ?_⟩
  · by_cases er : r = p
    · grind
    have hrT : r ∈ T := by grind
    obtain ⟨y, h1, h2⟩ := h.fin r hrT; exact ⟨y, by rw [List.getElem?_set_ne (Ne.symm er)]; exact h1, h2⟩
  · rw [hT]
    split
    · exact h.nodup
    rename_i hn
    rw [List.nodup_append]
    exact ⟨h.nodup, by simp, fun a ha b hb => by simp at hb; subst hb; rintro rfl; exact hn ha⟩
  obtain ⟨h7, h8⟩ := k52 r h1; rw [List.getElem?_set_ne (Ne.symm h8)] at h4
  by_cases es : s = p
  · subst es
    rw [List.getElem?_set_self wl] at h6; simp only [Option.some.injEq] at h6; have h9 := zk L[s] (List.getElem?_eq_getElem wl); have h10 := h.edge r s v a _ h7 h2 h3 h4 h5 (List.getElem?_eq_getElem wl); omega
  rw [List.getElem?_set_ne (Ne.symm es)] at h6; exact h.edge r s v a b h7 h2 h3 h4 h5 h6
theorem j44 : ∀ (L : List Nat) (p x y : Nat), L[p]? = some y → x < y → (L.set p x).sum + 1 ≤ L.sum
  | [], p, x, y, h, _ => by simp at h
  | z :: L, 0, x, y, h, zk => by simp at h; subst h; simp; omega
  | z :: L, p + 1, x, y, h, zk => by
    have := j44 L p x y (by simpa using h) zk; simp; omega
end
theorem ql6 : ∀ {n : Nat} {l : List Nat}, l.Nodup → (∀ x ∈ l, x < n) → l.length ≤ n
  | 0, l, _, h => by
    cases l with
    | nil => simp
    | cons x l => exact absurd (h x zx) zg
  | n + 1, l, hd, h => by
    have h1 := ql6 (n := n) (l := l.filter (fun x => x != n)) (hd.filter _) (fun x hx => by
      simp only [List.mem_filter, bne_iff_ne, ne_eq] at hx; have := h x hx.1
      omega)
    have h2 : ∀ (l : List Nat), l.Nodup → l.length ≤ (l.filter (fun x => x != n)).length + 1 := by
      intro l
      induction l with
      | nil => simp
      | cons y l ih =>
        intro hd; have hd' := List.nodup_cons.1 hd
        by_cases e : y = n
        · grind [List.filter_eq_self]
        grind
    have := h2 l hd; omega
section
variable {P : Program} (w : World)
theorem qj8 (t ty e : TypeId) (i : TypeInfo) (ht : P.underlying t = some (.slice e)) (hi : P.info? e = some i)
    (g off sLen sCap : Nat) (cur : Array Value) (hg : w.heap[g]? = some (.cells cur e (0, 0)))
    (a : Addr) (m c : Nat) (news : List Value) (hl : news.length = m * i.size) (uP : ∀ j u, news[j]? = some u → w.cell? (a.add j) = some u) (h1 : ∀ u ∈ news, u.oneCell' = true)
    (qw9 : sLen + m ≤ sCap) (q29 : off + sLen * i.size + news.length ≤ cur.size) :
    (Builtin.append_ #[t, t] ty #[.slice (some ⟨g, off, none⟩) sLen sCap, .slice (some a) m c]).run P w =
      .ok (.slice (some ⟨g, off, none⟩) (sLen + m) sCap) (w.setRow g (cur.toList.take (off + sLen * i.size) ++ news ++ cur.toList.drop (off + sLen * i.size + news.length)).toArray) := by
  have hf := run_firstCells_some (P := P) w i.size m a m c news hl uP; have xR := run_storeCells_at P g (off + sLen * i.size) e news 0 cur w hg (by simpa using q29) h1; simp only [Nat.add_zero] at xR; simp [Builtin.append_, run_underlying ht, sizeOf, typeInfo, hi, Builtin.lenOf, qw9, hf, Addr.add_lit, xR]
end
section
variable {c : Cx} {s : S} {o : Oper} {Q : Exit → S → Prop} {α : Type}
theorem qx5 {t e : TypeId} {x : Operand} {r sz k n : Nat} (hu : c.P.underlying t = some (.slice e)) (ho : o.op = .call { callee := .builtin .len, args := #[x], argTypes := #[t] }) (hx : s.ev x = some (.que r sz k n)) : RP c o s (.i (n : Int)) := fun g a w hs => by
  have h := hs.ev hx; generalize hy : a.eval x = y at h
  cases h with
  | que _ _ _ _ ad cap hn vK h =>
    refine ⟨.int .i64 n, .d _ _ (.p _), fun w' => ?_⟩; have hn2 : (n : Int) ≤ 9223372036854775807 := by simp only [maxLen] at vK; omega
    simp [execOp, ho, resolve, invoke, builtin, hy, Builtin.len_, run_underlying hu, goInt, qo4 (n := (n : Int)) zg hn2]
theorem qR8 {t e : TypeId} {x i : Operand} {r n : Nat} {z : Value} (hu : c.P.underlying t = some (.slice e)) (hi : Inf c.P e sz bt z) (ho : o.op = .indexAddr t x i) (hx : s.ev x = some (.que r sz k n)) (hy : s.ev i = some (.d (.p (.int kd n')))) (hk : n' = (j : Int)) (zk : j < n) : RP c o s (.ref r ((k + j) * sz)) := fun g a w hs => by
  have h := hs.ev hx; refine ⟨.pointer (some ⟨(g r).1, (k + j) * sz, none⟩), .ref _ _, fun w' => ?_⟩; generalize hxx : a.eval x = u at h
  cases h with
  | que _ _ _ _ ad cap hn vK h =>
    obtain ⟨rfl, _⟩ := h zg; subst hk; simp [execOp, ho, hxx, VRep.p_eq (hs.ev hy), Instr.indexAt, run_underlying hu, asIntOf, zk, vP hi, Addr.add, Nat.add_mul]
theorem qR9 {t e : TypeId} {x : Operand} {r n : Nat} {z : Value} (hu : c.P.underlying t = some (.slice e)) (hi : Inf c.P e sz bt z) (ho : o.op = .slice t x (some y) none none) (hx : s.ev x = some (.que r sz k n)) (hy : s.ev y = some (.d (.p (.int kd n')))) (hk : n' = (j : Int)) (hle : j ≤ n) : RD c o s (.que r sz (k + j) (n - j)) := fun g a w hs => by
  subst hk; have h := hs.ev hx; have hyv := VRep.p_eq (hs.ev hy); generalize hxx : a.eval x = u at h
  cases h with
  | que _ _ _ _ ad cap hn vK h =>
    refine ⟨.slice (if cap = j then ad else ad.map (·.add (j * sz))) (n - j) (cap - j), .que r sz (k + j) (n - j) _ _ zg zg fun h0 => ?_, fun w' _ => ?_⟩
    · obtain ⟨rfl, h2⟩ := h zg
      rw [if_neg zg]; exact ⟨by simp [Addr.add, Nat.add_mul], by omega⟩
    have h0 : (0 : Int) ≤ (j : Int) ∧ (j : Int) ≤ (n : Int) := by omega
    simp only [execOp, ho, hxx, hyv, map_some, map_none]; simp only [Instr.sliceAt, Instr.slice, Sem.run_bind, run_underlying hu, Result.andThen_ok, Instr.sliceBounds, run_sliceBound _ kd _ _ _ h0.1 h0.2, Sem.run_pure, vP hi, Int.toNat_natCast]
theorem qM3 {t e : TypeId} {x y : Operand} {r r2 : Nat} {z : Value} {row row2 : Row} {pre T : List α} {f : α → V} {q : α} (hu : c.P.underlying t = some (.slice e)) (hi : Inf c.P e 1 bt z) (hzs : z.cells.size = 1)
    (ho : o.op = .call { callee := .builtin .append, args := #[x, y], argTypes := #[t, t] }) (hx : s.ev x = some (.que r 1 pre.length T.length)) (hr : fnd s.H r = some row) (hf : row.nil = false) (hrz : row.sz = 1) (hty : row.ty = e)
    (hl : row.cells = (pre ++ T).map f) (hc : ∀ l : List α, V.hasL r (l.map f) = false) (hy : s.ev y = some (.own r2 1 1 false)) (hr2 : fnd s.H r2 = some row2) (hf2 : row2.nil = false) (uP : row2.cells.take 1 = [f q]) (uW : (f q).one = true) (h63 : T.length ≤ 1000000) (hbt : bt ≤ 64) (hd : dok s o = true) :
    vm c o s (fun s' => ∃ pre' : List α, s' = S.put ⟨s.n, (s.forget r).T, (r, ⟨e, (pre' ++ (T ++ [q])).map f, false, 1⟩) :: (s.forget r).H, (s.forget r).K⟩ o.dst (.que r 1 pre'.length (T.length + 1))) := by
  intro g a w hs K Q hK; obtain ⟨i, hi1, hi2, hi3, hi4⟩ := hi.out
  -- the news
  have hyv := hs.ev hy; obtain ⟨arr2, b1, b2, b3⟩ := hs.obj r2 row2 hr2 hf2; generalize hyy : a.eval y = yv at hyv
  cases hyv with
  | own _ _ _ hn2 k99 =>
  obtain ⟨u, b4, b5⟩ := b3 0 (f q) (by
    have : (row2.cells.take 1)[0]? = some (f q) := by rw [uP]; rfl
    simpa using this)
  have qS0 : ∀ (j : Nat) (v : Value), [u][j]? = some v → w.cell? ((⟨(g r2).1, 0, none⟩ : Addr).add j) = some v := by
    intro j v hv
    match j, hv with
    | 0, hv =>
      simp at hv; subst hv; rw [wN, zero_add]; exact (cell_of_row w _ _ _ _ _ b1).trans b4
    | n + 1, hv => simp at hv
  have h1 : ∀ v ∈ [u], v.oneCell' = true := by
    intro v hv; simp at hv; subst hv; exact b5.one uW
  -- the queue
  have hxv := hs.ev hx; obtain ⟨arr, a1, a2, a3⟩ := hs.obj r row hr hf; have zk : (g r).1 < w.heap.size := (Array.getElem?_eq_some_iff.1 a1).1; have hat : ∀ (j : Nat) (x : α), (pre ++ T)[j]? = some x → ∃ y, arr[j]? = some y ∧ VRep w (qt c s.H g) g (f x) y := fun j x hx => a3 j (f x) (by rw [hl, List.getElem?_map, hx]; rfl); have xz : arr.size = (g r).2 := by rw [a2 zg, hrz, Nat.mul_one]
  generalize hxx : a.eval x = xv at hxv
  cases hxv with
  | que _ _ _ _ ad cap hn vK hca =>
  by_cases qw9 : T.length + 1 ≤ cap
  · obtain ⟨rfl, hc2⟩ := hca zg
    rw [Nat.mul_one] at hxx; have q29 : pre.length + T.length * i.size + [u].length ≤ arr.size := by rw [hi2, xz]; simp; omega
    have zv := qj8 (P := c.P) w t o.type e i hu hi1 (g r).1 pre.length T.length cap arr (by rw [← hty]; exact a1) ⟨(g r2).1, 0, none⟩ 1 (g r2).2 [u] (by simp [hi2]) qS0 h1 qw9 q29; rw [hi2, Nat.mul_one] at zv; have vi := setRow_heap w (g r).1 arr (arr.toList.take (pre.length + T.length) ++ [u] ++ arr.toList.drop (pre.length + T.length + [u].length)).toArray row.ty _ a1
    have q57 := Sim.grown hs (row' := ⟨e, (pre ++ (T ++ [q])).map f, false, 1⟩) (cap := (g r).2) (G := (g r).1) hr (.inl ⟨hf, rfl⟩) rfl (by rw [← hty]; exact vi)
      (fun b hb zT => setRow_other w (g r).1 b _ (fun e' => zT hf e')) zx rfl rfl rfl (hc _) (fun _ => by simp; omega) (by
        intro j v hv; simp only at hv; rw [← append_assoc, List.getElem?_map] at hv
        by_cases hj : j < (pre ++ T).length
        · rw [List.getElem?_append_left hj, List.getElem?_eq_getElem hj] at hv
          simp only [map_some, Option.some.injEq] at hv; obtain ⟨y, h4, h5⟩ := hat j _ (List.getElem?_eq_getElem hj); subst hv; refine ⟨y, ?_, h5⟩; simp only [length_append] at hj; have hjs : j < arr.size := (Array.getElem?_eq_some_iff.1 h4).1; simp only [append_assoc, List.getElem?_toArray]; rw [List.getElem?_append_left (by simp; omega), List.getElem?_take_of_lt hj]
          simpa using h4
        rw [List.getElem?_append_right zg] at hv; simp only [length_append] at hj
        have hjj : j = pre.length + T.length := by
          have : j - (pre ++ T).length < 1 := by
            cases hh : [q][j - (pre ++ T).length]? with
            | none => rw [hh] at hv; cases hv
            | some x => exact (List.getElem?_eq_some_iff.1 hh).1
          simp only [length_append] at this; omega
        subst hjj; simp at hv; subst hv; refine ⟨u, ?_, b5⟩; simp only [append_assoc, List.getElem?_toArray]; rw [List.getElem?_append_right (by simp; omega)]; simp
        rw [show pre.length + T.length - min (pre.length + T.length) arr.size = 0 by omega]
        rfl)
    unfold Oper.wp
    have xP : (execOp a.eval o).run c.P w = .ok (.value (.slice (some ⟨(g r).1, pre.length, none⟩) (T.length + 1) cap)) (w.setRow (g r).1 (arr.toList.take (pre.length + T.length) ++ [u] ++ arr.toList.drop (pre.length + T.length + [u].length)).toArray) := by
      simp only [execOp, ho, resolve, invoke, builtin, Sem.run_bind, Sem.run_pure, Result.andThen_ok, map_toArray, map_cons, map_nil, hxx, hyy, zv]
    rw [xP]; refine hK _ _ _ _ ⟨pre, rfl⟩ (q57.put o.dst (zJ (s := s) hd) ?_)
    have := VRep.que (w := w.setRow (g r).1 (arr.toList.take (pre.length + T.length) ++ [u] ++ arr.toList.drop (pre.length + T.length + [u].length)).toArray) (q := qt c ((r, (⟨e, (pre ++ (T ++ [q])).map f, false, 1⟩ : Row)) :: (s.forget r).H) (fun k => if k = r then ((g r).1, (g r).2) else g k)) (g := fun k => if k = r then ((g r).1, (g r).2) else g k) r 1 pre.length (T.length + 1) (some ⟨(g r).1, pre.length, none⟩) cap zg vK (fun _ => ⟨by simp, by simpa using hc2⟩)
    exact this
  -- new memory
  obtain ⟨olds, ho1, ho2⟩ : ∃ olds : List Value, olds.length = T.length ∧ ∀ (j : Nat) (v : Value), olds[j]? = some v → arr[pre.length + j]? = some v ∧ ∃ x, T[j]? = some x ∧ VRep w (qt c s.H g) g (f x) v := by
    refine ⟨(List.range T.length).map fun j => arr.getD (pre.length + j) undef, by simp, fun j v hv => ?_⟩; have hj : j < T.length := by simpa using (List.getElem?_eq_some_iff.1 hv).1
    simp only [List.getElem?_map, List.getElem?_range hj, map_some, Option.some.injEq] at hv; obtain ⟨y, h4, h5⟩ := hat (pre.length + j) T[j] (by rw [List.getElem?_append_right zg]; simp [hj]); rw [Array.getD_eq_getD_getElem?, h4] at hv; simp only [getD_some] at hv; subst hv; exact ⟨h4, T[j], List.getElem?_eq_getElem hj, h5⟩
  have hge := grownCap_ge w (T.length + 1) cap e
  have jW8 := growslice_fits (need := T.length + 1) (old := cap) (bytes := i.bytes) zg (by
    rw [hi3]; have : (T.length + 1) * bt ≤ 1000001 * 64 := Nat.mul_le_mul zg hbt
    omega)
  obtain ⟨zv⟩ : Nonempty ((Builtin.append_ #[t, t] o.type #[.slice ad T.length cap, .slice (some ⟨(g r2).1, 0, none⟩) 1 (g r2).2]).run c.P w =
      .ok (.slice (some ⟨w.heap.size, 0, none⟩) (T.length + 1) (grownCap w (T.length + 1) cap e)) (w.drew.alloc (.cells (olds.toArray ++ [u].toArray ++ Builtin.zeroCells z.cells (grownCap w (T.length + 1) cap e - (T.length + 1))) e))) := by
    refine ⟨?_⟩
    cases ad with
    | none =>
      have jW9 : cap = 0 := by
        by_cases h0 : cap = 0
        · exact h0
        have := (hca h0).1; cases this
      subst jW9; have hT0 : T.length = 0 := by omega
      have holds : olds = [] := List.eq_nil_of_length_eq_zero zg; have := run_append_nil (P := c.P) w t o.type e i z hu hi1 hi4 ⟨(g r2).1, 0, none⟩ 1 (g r2).2 [u] (by simp [hi2]) qS0 zg zg (by rw [hi3]; omega); rw [hT0, holds]
      simpa using this
    | some b =>
      refine run_append_grow (P := c.P) w t o.type e i z hu hi1 hi4 b T.length cap olds (by simp [hi2, ho1]) (fun j v hv => ?_) ⟨(g r2).1, 0, none⟩ 1 (g r2).2 [u] (by simp [hi2]) qS0 zg zg jW8; have hj : j < T.length := by rw [← ho1]; exact (List.getElem?_eq_some_iff.1 hv).1
      obtain ⟨hb, _⟩ := hca zg; simp only [Option.some.injEq] at hb; subst hb; rw [wN, Nat.mul_one]; exact (cell_of_row w _ _ _ _ _ a1).trans (ho2 j v hv).1
  have q57 := Sim.grown hs (w' := w.drew.alloc (.cells (olds.toArray ++ [u].toArray ++ Builtin.zeroCells z.cells (grownCap w (T.length + 1) cap e - (T.length + 1))) e)) (row' := ⟨e, ([] ++ (T ++ [q])).map f, false, 1⟩) (cap := grownCap w (T.length + 1) cap e) (G := w.heap.size) hr (.inr rfl) rfl (heap_alloc_new w.drew _)
    (fun b hb _ => @heap_alloc_old w.drew _ b hb) zx rfl rfl rfl (hc _) (fun _ => by simp [size_zeroCells, hzs, ho1]; omega) (by
      intro j v hv; simp only [nil_append] at hv; rw [List.getElem?_map] at hv
      by_cases hj : j < T.length
      · rw [List.getElem?_append_left hj, List.getElem?_eq_getElem hj] at hv
        simp only [map_some, Option.some.injEq] at hv; subst hv; have hjo : j < olds.length := by omega
        obtain ⟨_, x, h6, h7⟩ := ho2 j olds[j] (List.getElem?_eq_getElem hjo); rw [List.getElem?_eq_getElem hj] at h6; simp only [Option.some.injEq] at h6; subst h6; refine ⟨olds[j], ?_, h7⟩; rw [Array.getElem?_append_left (by simp; omega), Array.getElem?_append_left (by simpa using hjo)]; simp [hjo]
      rw [List.getElem?_append_right zg] at hv
      have hjj : j = T.length := by
        have : j - T.length < 1 := by
          cases hh : [q][j - T.length]? with
          | none => rw [hh] at hv; cases hv
          | some x => exact (List.getElem?_eq_some_iff.1 hh).1
        omega
      subst hjj; simp at hv; subst hv; refine ⟨u, ?_, b5⟩; rw [Array.getElem?_append_left (by simp; omega), Array.getElem?_append_right (by simp; omega)]
      simp [ho1])
  unfold Oper.wp
  have xP : (execOp a.eval o).run c.P w = .ok (.value (.slice (some ⟨w.heap.size, 0, none⟩) (T.length + 1) (grownCap w (T.length + 1) cap e))) (w.drew.alloc (.cells (olds.toArray ++ [u].toArray ++ Builtin.zeroCells z.cells (grownCap w (T.length + 1) cap e - (T.length + 1))) e)) := by
    simp only [execOp, ho, resolve, invoke, builtin, Sem.run_bind, Sem.run_pure, Result.andThen_ok, map_toArray, map_cons, map_nil, hxx, hyy, zv]
  rw [xP]; refine hK _ _ _ _ ⟨[], rfl⟩ (q57.put o.dst (zJ (s := s) hd) ?_); have hmx : grownCap w (T.length + 1) cap e ≤ maxLen := grownCap_le_maxLen w (T.length + 1) cap e (by simp only [maxLen]; omega)
  have := VRep.que (w := w.drew.alloc (.cells (olds.toArray ++ [u].toArray ++ Builtin.zeroCells z.cells (grownCap w (T.length + 1) cap e - (T.length + 1))) e)) (q := qt c ((r, (⟨e, ([] ++ (T ++ [q])).map f, false, 1⟩ : Row)) :: (s.forget r).H) (fun k => if k = r then (w.heap.size, grownCap w (T.length + 1) cap e) else g k)) (g := fun k => if k = r then (w.heap.size, grownCap w (T.length + 1) cap e) else g k) r 1 0 (T.length + 1) (some ⟨w.heap.size, 0, none⟩) (grownCap w (T.length + 1) cap e) hge hmx (fun _ => ⟨by simp, by simp⟩)
  exact this
theorem jX {X : List α → S} (hg : o.guard = none) (h : vm c o s (fun s' => ∃ pre', s' = X pre')) (hN : ∀ pre', AL c ops rest Q (X pre')) : AL c ops (o :: rest) Q s :=
  qN hg fun g a w hs K Q' hK => h g a w hs K Q' fun g' s' a' w' ⟨pre', e⟩ h1 => hK g' s' a' w' (by subst e; exact hN pre') h1
end
theorem jY {s : S} (b j : Nat) (v' : V) {row : Row} {u : V} (hb : fnd s.H b = some row) (hj : row.cells[j]? = some u) (hw : Wk v' u) : Less ⟨s.n, s.T, (b, { row with cells := row.cells.set j v' }) :: s.H, s.K⟩ s := by
  refine ⟨rfl, fun i v h => ⟨v, h, .refl _⟩, fun k row' hk => ?_, fun j v h => ⟨v, h, .refl _⟩⟩
  simp only [fnd] at hk
  split at hk
  · rename_i e
    simp only [beq_iff_eq] at e; subst e; simp only [Option.some.injEq] at hk; subst hk; refine ⟨row, hb, rfl, rfl, rfl, fun i v hv => ?_⟩; simp only at hv; rw [List.getElem?_set] at hv
    split at hv
    · grind
    exact ⟨v, hv, .refl _⟩
  exact ⟨row', hk, rfl, rfl, rfl, fun j v hv => ⟨v, hv, .refl _⟩⟩
def tG (T : List (List Bool)) (q p : Nat) : Bool := (T[q]?.getD [])[p]?.getD false
def tOk (n : Nat) (T : List (List Bool)) : Prop := T.length = n ∧ ∀ r ∈ T, r.length = n
theorem tOk.row {n : Nat} (h : tOk n T) (hq : q < n) : ∃ r, T[q]? = some r ∧ r.length = n ∧ ∀ p, p < n → r[p]? = some (tG T q p) := by
  have hq' : q < T.length := by rw [h.1]; exact hq
  have hr := List.getElem?_eq_getElem hq'; have hl := h.2 _ (List.getElem_mem hq'); refine ⟨_, hr, hl, fun p hp => ?_⟩; unfold tG; rw [hr]; simp only [getD_some]; rw [List.getElem?_eq_getElem (by rw [hl]; exact hp)]; rfl
def tP (T : List (List Bool)) (q p : Nat) : List (List Bool) := T.set q ((T[q]?.getD []).set p true)
theorem jX0 {n : Nat} (h : tOk n T) (hq : q < n) (hp : p < n) : tOk n (tP T q p) ∧ ∀ a b, tG (tP T q p) a b = true ↔ tG T a b = true ∨ (a = q ∧ b = p) := by
  obtain ⟨r, h1, h2, h3⟩ := h.row hq; have hq' : q < T.length := by rw [h.1]; exact hq
  refine ⟨⟨by unfold tP; rw [List.length_set]; exact h.1, fun x hx => ?_⟩, fun a b => ?_⟩
  · unfold tP at hx
    rcases List.mem_or_eq_of_mem_set hx with hx | rfl
    · exact h.2 x hx
    rw [h1]; simp [h2]
  grind [tG, tP, List.getElem?_set_self, List.getElem?_set_ne]
def nF (T : List (List Bool)) : Nat := (T.map fun r => r.countP fun b => !b).sum
theorem jE4 {r : List Bool} (h : r[p]? = some false) : (r.set p true).countP (fun b => !b) + 1 = r.countP fun b => !b := by grind
theorem qS1 : ∀ {T : List (List Bool)} {q : Nat} {r r' : List Bool}, T[q]? = some r → r'.countP (fun b => !b) + 1 = r.countP (fun b => !b) → nF (T.set q r') + 1 = nF T
  | [], q, r, r', h, _ => by simp at h
  | x :: T, 0, r, r', h, h2 => by grind [nF]
  | x :: T, q + 1, r, r', h, h2 => by
    have ih := qS1 (T := T) (q := q) (r := r) (r' := r') (by simpa using h) h2; simp only [nF, set_cons_succ, map_cons, List.sum_cons] at ih ⊢; omega
theorem jE5 {n : Nat} (h : tOk n T) (hq : q < n) (hp : p < n) (hf : tG T q p = false) : nF (tP T q p) + 1 = nF T := by
  obtain ⟨r, h1, h2, h3⟩ := h.row hq; unfold tP; rw [h1]; refine qS1 h1 (jE4 (r := r) ?_); rw [h3 p hp, hf]
def apA (T : List (List Bool)) : List Ar → List Ar → Bool
  | a :: l, b :: r => if a.i = b.i ∧ a.o = b.o ∧ a.w = b.w ∧ tG T a.t.toNat b.t.toNat = false then apA T l r else true
  | _, _ => false
def apB (T : List (List Bool)) (x y : St) : Bool := if x.fin = y.fin ∧ x.arcs.length = y.arcs.length then apA T x.arcs y.arcs else true
theorem j45 {T : List (List Bool)} : ∀ {l r : List Ar}, l.length = r.length → (apA T l r = false ↔ ∀ (i : Nat) (a b : Ar), l[i]? = some a → r[i]? = some b → a.i = b.i ∧ a.o = b.o ∧ a.w = b.w ∧ tG T a.t.toNat b.t.toNat = false)
  | [], [], _ => by simp [apA]
  | [], b :: r, h => by simp at h
  | a :: l, [], h => by simp at h
  | a :: l, b :: r, h => by
    have ih := j45 (T := T) (l := l) (r := r) (by simpa using h); rw [apA]
    by_cases e : a.i = b.i ∧ a.o = b.o ∧ a.w = b.w ∧ tG T a.t.toNat b.t.toNat = false
    · rw [if_pos e, ih]
      constructor
      · grind
      intro h1 i a' b' h2 h3; exact h1 (i + 1) a' b' (by simpa using h2) (by simpa using h3)
    rw [if_neg e]
    constructor
    · intro h1; cases h1
    intro h1; exact absurd (h1 0 a b rfl rfl) e
theorem j46 {x y : St} : apB T x y = true ↔ apP (fun q p => tG T q p = true) x y := by
  have h : apB T x y = false ↔ agr (fun q p => ¬ tG T q p = true) x y := by
    unfold apB agr
    by_cases e : x.fin = y.fin ∧ x.arcs.length = y.arcs.length
    · rw [if_pos e, j45 e.2]
      simp only [e.1, e.2, true_and, Bool.not_eq_true]
    grind
  unfold apP; rw [← h]
  cases apB T x y <;> simp
structure Psg (n : Nat) (sts : List St) (T0 : List (List Bool)) (q p : Nat) (ag : Bool) (T : List (List Bool)) : Prop where
  ok : tOk n T
  tel : qC4 sts fun q p => tG T q p = true
  le : nF T ≤ nF T0
  old : ag = false → T = T0
  lt : ag = true → nF T < nF T0
  done : ag = false → ∀ a b x y, (a < q ∨ a = q ∧ b < p) → b < n → sts[a]? = some x → sts[b]? = some y → tG T0 a b = false → apB T0 x y = false
theorem Psg.begin {n : Nat} (h : tOk n T) (ht : qC4 sts fun q p => tG T q p = true) : Psg n sts T 0 0 false T :=
  ⟨h, ht, le_refl _, fun _ => rfl, fun h => (by cases h), fun _ a b x y h _ => by omega⟩
theorem Psg.skip {n : Nat} {x y : St} (h : Psg n sts T0 q p ag T) (hx : sts[q]? = some x) (hy : sts[p]? = some y) (hs : tG T q p = true ∨ apB T x y = false) : Psg n sts T0 q (p + 1) ag T :=
  ⟨h.ok, h.tel, h.le, h.old, h.lt, fun ha a b x' y' hab hb h1 h2 h3 => by
    by_cases e : a = q ∧ b = p
    · obtain ⟨rfl, rfl⟩ := e
      rw [h1] at hx; rw [h2] at hy
      cases hx
      cases hy
      rw [h.old ha] at hs
      rcases hs with hs | hs
      · rw [hs] at h3; cases h3
      exact hs
    exact h.done ha a b x' y' zg hb h1 h2 h3⟩
theorem Psg.put {n : Nat} {x y : St} (h : Psg n sts T0 q p ag T) (hq : q < n) (hp : p < n) (hx : sts[q]? = some x) (hy : sts[p]? = some y) (h1 : tG T q p = false) (h2 : apB T x y = true) : Psg n sts T0 q (p + 1) true (tP T q p) := by
  obtain ⟨k1, k2⟩ := jX0 h.ok hq hp; have k3 := jE5 h.ok hq hp h1; have k4 := h.le
  refine ⟨k1, ?_, by omega, fun h => (by cases h), fun _ => by omega, fun h => (by cases h)⟩
  have := jr8 h.tel hx hy (j46.1 h2); intro a b hab; exact this a b ((k2 a b).1 hab)
theorem Psg.row {n : Nat} (h : Psg n sts T0 q n ag T) : Psg n sts T0 (q + 1) 0 ag T :=
  ⟨h.ok, h.tel, h.le, h.old, h.lt, fun ha a b x' y' hab hb h1 h2 h3 => h.done ha a b x' y' zg hb h1 h2 h3⟩
theorem Psg.end (ht : tin sts) (h : Psg sts.length sts T0 sts.length 0 false T) (hq : q < sts.length) (hp : p < sts.length) : tG T q p = false ↔ sim sts q p := by
  have := jh8 ht h.tel (fun a b x y h1 h2 h3 h4 => by
    have ha : a < sts.length := (List.getElem?_eq_some_iff.1 h1).1; have hb : b < sts.length := (List.getElem?_eq_some_iff.1 h2).1; have e := h.old rfl; have h5 := h.done rfl a b x y (.inl ha) hb h1 h2 (by rw [← e]; simpa using h3); have h6 := j46.2 h4; rw [e, h5] at h6
    cases h6) hq hp
  rw [← this]; simp
def fT (n : Nat) : List (List Bool) := List.replicate n (List.replicate n false)
theorem jX1 (n : Nat) : tOk n (fT n) := ⟨by simp [fT], fun r hr => by rw [List.eq_of_mem_replicate hr]; simp⟩
theorem jX2 (n q p : Nat) : ¬ tG (fT n) q p = true := by grind [tG, fT]
mutual
def V.low (b : Nat) : V → Bool
  | .d _ => true
  | .ad _ => true
  | .ref k _ => decide (k < b)
  | .own k _ _ _ => decide (k < b)
  | .que k _ _ _ => decide (k < b)
  | .agg l => V.lowL b l
  | .tup l => V.lowL b l
  | .fn _ l => V.lowL b l
  | .mp k _ _ => decide (k < b)
  | .mq k _ _ => decide (k < b)
  | .ifc _ v => V.low b v
  | .mp2 _ k k' _ _ _ => decide (k < b) && decide (k' < b)
  | .it k _ _ _ => decide (k < b)
  | .mit k k' _ _ _ => decide (k < b) && decide (k' < b)
  | .mm k _ _ => decide (k < b)
  | .blk _ _ _ => true
  | .junk => true
def V.lowL (b : Nat) : List V → Bool
  | [] => true
  | v :: l => V.low b v && V.lowL b l
end
mutual
theorem V.low_has {b r : Nat} (hr : b ≤ r) : ∀ (v : V), v.low b = true → v.has r = false
  | .d _, _ => rfl
  | .ad _, _ => rfl
  | .ref k _, h => by simp [V.low] at h; simp [V.has]; omega
  | .own k _ _ _, h => by simp [V.low] at h; simp [V.has]; omega
  | .que k _ _ _, h => by simp [V.low] at h; simp [V.has]; omega
  | .agg l, h => V.lowL_has hr l (by simpa [V.low] using h)
  | .tup l, h => V.lowL_has hr l (by simpa [V.low] using h)
  | .fn _ l, h => V.lowL_has hr l (by simpa [V.low] using h)
  | .mp k _ _, h => by simp [V.low] at h; simp [V.has]; omega
  | .mq k _ _, h => by simp [V.low] at h; simp [V.has]; omega
  | .ifc _ v, h => by simpa [V.has] using V.low_has hr v (by simpa [V.low] using h)
  | .mp2 _ k k' _ _ _, h => by simp [V.low] at h; simp [V.has]; omega
  | .it k _ _ _, h => by simp [V.low] at h; simp [V.has]; omega
  | .mit k k' _ _ _, h => by simp [V.low] at h; simp [V.has]; omega
  | .mm k _ _, h => by simp [V.low] at h; simp [V.has]; omega
  | .blk _ _ _, _ => rfl
  | .junk, _ => rfl
theorem V.lowL_has {b r : Nat} (hr : b ≤ r) : ∀ (l : List V), V.lowL b l = true → V.hasL r l = false
  | [], _ => rfl
  | v :: l, h => by
    simp only [V.lowL, and_eq_true] at h; simp only [V.hasL, V.low_has hr v h.1, V.lowL_has hr l h.2, Bool.or_false]
end
def q59 (b : Nat) (v : V) : V := if v.low b then v else .junk
theorem qI0 {r : Nat} (hr : b ≤ r) (v : V) : Wk (q59 b v) (zV r v) := by
  unfold q59
  split
  · rename_i h
    rw [zV, if_neg (by rw [V.low_has hr v h]; simp)]; exact .refl _
  exact .junk _
section
variable {β : Type} {F : Fam β} {c : Cx} {s : S} {o : Oper} {Q : Exit → S → Prop}
theorem vR {α : Type} : ∀ (l l' : List (Nat × α)) (i : Nat), fnd (l ++ l') i = match fnd l i with | some v => some v | none => fnd l' i
  | [], l', i => by simp [fnd]
  | (k, v) :: l, l', i => by
    simp only [cons_append, fnd]
    split
    · rfl
    exact vR l l' i
theorem bQ {α : Type} {l : List (Nat × α)} (h : l.all (fun x => decide (x.1 < b)) = true) {i : Nat} (hi : b ≤ i) : fnd l i = none := by
  cases hh : fnd l i with
  | none => rfl
  | some v =>
    have := List.all_eq_true.1 h _ (vo hh); simp at this; omega
theorem Fam.cells_has {m : Nat} (hm : ∀ x, (F.pre x).length = m) : ∀ (l : List β) (k p j : Nat) (v : V), (F.cells k l)[j]? = some v → v.has (k + p) = true → j = p * (m + 1) + m
  | [], k, p, j, v, h, hv => by simp [Fam.cells] at h
  | x :: l, k, p, j, v, h, hv => by
    simp only [Fam.cells] at h
    by_cases hj : j < m
    · grind [List.getElem?_append_left, V.has]
    rw [List.getElem?_append_right (by simp [hm]; omega)] at h; simp only [length_map, hm] at h
    cases hjm : j - m with
    | zero =>
      rw [hjm] at h; simp at h; subst h; simp [Fam.ownV, V.has] at hv; subst hv; omega
    | succ i =>
      rw [hjm, List.getElem?_cons_succ] at h
      cases p with
      | zero =>
        have := V.hasL_false.1 (Fam.cells_hasL (F := F) l (k + 1) k zg) v (mem_of_getElem? h); rw [Nat.add_zero, this] at hv
        cases hv
      | succ p =>
        have := Fam.cells_has hm l (k + 1) p i v h (by rw [show k + 1 + p = k + (p + 1) by omega]; exact hv)
        rw [succ_mul]; omega
theorem bR {lits : List (Nat × Row)} {L : List β} {base p rb m r2 : Nat} {t : TypeId} {x y : Operand} {x0 x' : β} {z : Value} {row2 : Row} {zb : Nat} {tyb : TypeId} {fb : Bool} {newrow : List D} (hu : c.P.underlying t = some (.slice F.ty)) (hi : Inf c.P F.ty F.sz bt z) (hzs : z.cells.size = F.sz) (xz : 0 < F.sz) (k53 : bt ≤ 64)
    (ho : o.op = .call { callee := .builtin .append, args := #[x, y], argTypes := #[t, t] }) (hH : s.H = lits ++ F.objs base L) (hx : s.ev x = some (F.ownV (base + p) x0)) (hp : L[p]? = some x0) (hm : ∀ x, (F.pre x).length = m) (vi : ∀ x, ∀ l ∈ F.it x, l.length = F.sz)
    (vW : lits.all (fun x => decide (x.1 < base)) = true) (hrb : fnd lits rb = some ⟨tyb, F.cells base L, fb, zb⟩) (hy : s.ev y = some (.own r2 F.sz 1 false)) (hr2 : fnd lits r2 = some row2) (hf2 : row2.nil = false) (uP : row2.cells.take (1 * F.sz) = newrow.map V.d) (uW : (newrow.map V.d).all V.one = true)
    (wK : F.pre x' = F.pre x0) (hit : F.it x' = F.it x0 ++ [newrow]) (hnl : newrow.length = F.sz) (hd : dok s o = true) (hlo : ∀ x ∈ lits, x.1 ≠ rb → V.hasL (base + p) x.2.cells = false) (zI : (F.it x0).length ≤ 1000000) :
    StepX c o s (base + p) (fun s' => s' = S.put ⟨s.n, s.T.map (fun x => (x.1, q59 base x.2)), (rb, ⟨tyb, (F.cells base (L.set p x')).set (p * (m + 1) + m) .junk, fb, zb⟩) :: lits ++ F.objs base (L.set p x'), s.K.map (q59 base)⟩ o.dst (F.ownV (base + p) x')) := by
  have wl : p < L.length := (List.getElem?_eq_some_iff.1 hp).1
  have xA : ∀ x, (F.it x).flatten.length = (F.it x).length * F.sz := by
    intro x; have := vi x; generalize F.it x = l at this
    induction l with
    | nil => simp
    | cons y l ih => simp [ih (fun z hz => this z (by simp [hz])), this y zx, succ_mul, Nat.add_comm]
  have hfr : fnd s.H (base + p) = some (F.row x0) := by rw [hH, vR, bQ vW zg, Fam.objs_get, hp]; rfl
  have ka9 : rb < base := by have := List.all_eq_true.1 vW _ (vo hrb); simpa using this
  have k54 : fnd s.H r2 = some row2 := by rw [hH, vR, hr2]
  have key := qw3 (n := (F.it x0).length) (m := 1) (f := (F.it x0).isEmpty) hu hi hzs xz ho (by rw [hx]; rfl) hfr rfl rfl rfl (l1 := (F.row x0).cells) (take_of_length_le (by simp only [Fam.row, length_map, xA]; exact le_refl _)) (by simp only [Fam.row, length_map, xA]) (Fam.row_hasL x0 _) hy k54 hf2 uP (by simp [hnl]) (q83 _ _) uW zg zg (by
    have : ((F.it x0).length + 1) * bt ≤ 1000001 * 64 := Nat.mul_le_mul zg k53
    omega) hd
  intro g a w hs K Q' hK; refine key g a w hs K Q' fun g' s' a' w' hs' bG hx' => ?_; subst hs'
  have zT : (F.it x').isEmpty = false := by rw [hit]; cases F.it x0 <;> rfl
  have hlx : (F.it x').length = (F.it x0).length + 1 := by rw [hit]; simp
  have ql7 : F.ownV (base + p) x' = .own (base + p) F.sz ((F.it x0).length + 1) false := by rw [Fam.ownV, zT, hlx]
  have qN4 : F.row x' = ⟨F.ty, (F.row x0).cells ++ newrow.map V.d, false, F.sz⟩ := by unfold Fam.row; rw [zT, hit]; congr 1; simp only [List.flatten_append, map_append, List.flatten_cons, List.flatten_nil, append_nil]
  refine hK g' _ a' w' rfl (bG.less ⟨?_, ?_, ?_, ?_⟩) hx'
  · cases o.dst <;> rfl
  · intro i v hv
    have hT : ∀ v, fnd (s.T.map (fun x => (x.1, q59 base x.2))) i = some v → ∃ u, fnd (s.forget (base + p)).T i = some u ∧ Wk v u := by
      intro v hv; rw [uo] at hv; simp only [S.forget]; rw [uo]
      cases hu : fnd s.T i with
      | none => rw [hu] at hv; cases hv
      | some u => rw [hu] at hv; simp at hv; subst hv; exact ⟨_, rfl, qI0 zg u⟩
    cases ql8 : o.dst with
    | none =>
      rw [ql8] at hv; exact hT v hv
    | some d =>
      rw [ql8] at hv; simp only [S.put, fnd] at hv ⊢
      split at hv
      · rename_i e
        simp only [Option.some.injEq] at hv; subst hv; simp only [e, if_true]; exact ⟨_, rfl, by rw [ql7]; exact .refl _⟩
      grind
  · intro r row' hr
    have hr : fnd ((rb, (⟨tyb, (F.cells base (L.set p x')).set (p * (m + 1) + m) .junk, fb, zb⟩ : Row)) :: lits ++ F.objs base (L.set p x')) r = some row' := by
      cases ql8 : o.dst <;> (rw [ql8] at hr; exact hr)
    have goal : ∃ row, fnd ((base + p, (⟨F.ty, (F.row x0).cells ++ newrow.map V.d, false, F.sz⟩ : Row)) :: (s.forget (base + p)).H) r = some row ∧ row'.ty = row.ty ∧ row'.nil = row.nil ∧ row'.sz = row.sz ∧ ∀ (j : Nat) (v : V), row'.cells[j]? = some v → ∃ u, row.cells[j]? = some u ∧ Wk v u := by
      have js5 : ∀ r, r ≠ base + p → fnd ((base + p, (⟨F.ty, (F.row x0).cells ++ newrow.map V.d, false, F.sz⟩ : Row)) :: (s.forget (base + p)).H) r = (fnd s.H r).map (fun (x : Row) => ({ x with cells := if V.hasL (base + p) x.cells then x.cells.map (zV (base + p)) else x.cells } : Row)) := by
        intro r zT; simp only [fnd, beq_iff_eq, Ne.symm zT, if_false, S.forget]
        rw [uo (fun (x : Row) => ({ x with cells := if V.hasL (base + p) x.cells then x.cells.map (zV (base + p)) else x.cells } : Row)), yA _ _ _ zT]
      rw [cons_append, fnd] at hr
      by_cases e : rb = r
      · subst e
        rw [if_pos zx] at hr; have hr := Option.some.inj hr; subst hr; have h1 : fnd s.H rb = some ⟨tyb, F.cells base L, fb, zb⟩ := by rw [hH, vR, hrb]
        rw [js5 rb zg, h1]; refine ⟨_, rfl, rfl, rfl, rfl, fun j v hv => ?_⟩; rw [Fam.cells_setown hm L base p x0 x' _ hp wK, List.getElem?_set] at hv
        have k55 : V.hasL (base + p) (F.cells base L) = true := by
          cases hh : V.hasL (base + p) (F.cells base L) with
          | true => rfl
          | false =>
            have h2 := V.hasL_false.1 hh _ (mem_of_getElem? (Fam.cells_own hm L base p x0 hp)); simp [Fam.ownV, V.has] at h2
        dsimp only
        rw [if_pos k55, List.getElem?_map]; have xM : (F.cells base L)[p * (m + 1) + m]? = some (F.ownV (base + p) x0) := Fam.cells_own hm L base p x0 hp
        split at hv
        · rename_i e
          subst e; rw [if_pos (List.getElem?_eq_some_iff.1 xM).1] at hv; simp only [Option.some.injEq] at hv; subst hv; rw [xM]; exact ⟨_, rfl, .junk _⟩
        rename_i e
        rw [hv]; refine ⟨_, rfl, ?_⟩
        have : v.has (base + p) = false := by
          cases hh : v.has (base + p) with
          | false => rfl
          | true => exact absurd (Fam.cells_has hm L base p j v hv hh).symm e
        rw [zV, this]; exact .refl _
      rw [if_neg (by simpa using e)] at hr; rw [vR] at hr
      cases hl : fnd lits r with
      | some row =>
        rw [hl] at hr; simp only [Option.some.injEq] at hr; subst hr; have hrl : r < base := by have := List.all_eq_true.1 vW _ (vo hl); simpa using this
        rw [js5 r zg, hH, vR, hl]
        have := hlo _ (vo hl) (fun e' => e e'.symm)
        simp only at this
        exact ⟨_, rfl, rfl, rfl, rfl, fun j v hv => ⟨v, by dsimp only; rw [this, if_neg zx]; exact hv, .refl _⟩⟩
      | none =>
        rw [hl] at hr; simp only at hr; obtain ⟨i, y, rfl, hy', rfl⟩ := Fam.objs_inv hr
        by_cases hip : i = p
        · subst hip
          rw [List.getElem?_set_self wl] at hy'; simp only [Option.some.injEq] at hy'; subst hy'
          refine ⟨⟨F.ty, (F.row x0).cells ++ newrow.map V.d, false, F.sz⟩, by simp [fnd], by rw [qN4], by rw [qN4], by rw [qN4], fun j v hv => ⟨v, by rw [qN4] at hv; exact hv, .refl _⟩⟩
        rw [List.getElem?_set_ne (Ne.symm hip)] at hy'; rw [js5 _ zg, hH, vR, bQ vW zg, Fam.objs_get, hy']
        exact ⟨_, rfl, rfl, rfl, rfl, fun j v hv => ⟨v, by dsimp only; rw [Fam.row_hasL, if_neg zx]; exact hv, .refl _⟩⟩
    cases ql8 : o.dst <;> exact goal
  intro j v hv
  have hv : (s.K.map (q59 base))[j]? = some v := by cases ql8 : o.dst <;> (rw [ql8] at hv; exact hv)
  have goal : ∃ u, (s.K.map (zV (base + p)))[j]? = some u ∧ Wk v u := by
    rw [List.getElem?_map] at hv ⊢
    cases hu : s.K[j]? with
    | none => rw [hu] at hv; cases hv
    | some u => rw [hu] at hv; simp at hv; subst hv; exact ⟨_, rfl, qI0 zg u⟩
  cases ql8 : o.dst <;> exact goal
theorem qq8 {t : TypeId} {d : TypeDesc} {x : Operand} {m : Nat} {row : Row} {L : List β} {x0 : β} (hu : c.P.underlying t = some d) (hd : wD d = false) (ho : o.op = .load t x) (hx : s.ev x = some (.ref rb k)) (hr : fnd s.H rb = some row) (hn : row.nil = false) (hc : row.cells = F.cells base L) (hm : ∀ x, (F.pre x).length = m) (hk : k = p * (m + 1) + m) (hp : L[p]? = some x0) : RD c o s (F.ownV (base + p) x0) :=
  xO hu hd ho hx hr hn (by rw [hc, hk]; exact Fam.cells_own hm L base p x0 hp)
theorem q66 {t : TypeId} {d : TypeDesc} {x : Operand} {m : Nat} {row : Row} {L : List β} {x0 : β} {v : D} (hu : c.P.underlying t = some d) (hd : wD d = false) (ho : o.op = .load t x) (hx : s.ev x = some (.ref rb k)) (hr : fnd s.H rb = some row) (hn : row.nil = false) (hc : row.cells = F.cells base L) (hm : ∀ x, (F.pre x).length = m) (hk : k = p * (m + 1) + j) (hp : L[p]? = some x0) (hv : (F.pre x0)[j]? = some v) : RD c o s (.d v) :=
  xO hu hd ho hx hr hn (by rw [hc, hk]; exact Fam.cells_pre hm L base p j x0 v hp hv)
theorem q67 {t : TypeId} {z : Value} {x : Operand} {m : Nat} {row : Row} {L : List β} {x0 : β} (hi : Inf c.P t 1 bt z) (ho : o.op = .store t x y) (hd : o.dst = none) (hx : s.ev x = some (.ref rb k)) (hy : s.ev y = some (F.ownV (base + p) x0)) (hr : fnd s.H rb = some row) (hn : row.nil = false)
    (hm : ∀ x, (F.pre x).length = m) (hc : row.cells = (F.cells base L).set (p * (m + 1) + m) .junk) (hk : k = p * (m + 1) + m) (hp : L[p]? = some x0) : vm c o s (fun s' => s' = { s with H := (rb, { row with cells := F.cells base L }) :: s.H }) := by
  have xM := Fam.cells_own hm L base p x0 hp; exact vA hi ho hd hx hy hr hn rfl (by rw [hc, hk, List.length_set]; exact (List.getElem?_eq_some_iff.1 xM).1) (by rw [hc, hk, Fam.cells_put hm hp])
theorem qM4 {t : TypeId} {z : Value} {x : Operand} {p j m : Nat} {row : Row} {L : List β} {x0 : β} (x' : β) {lits : List (Nat × Row)} {v : D} (hi : Inf c.P t 1 bt z) (ho : o.op = .store t x y) (hd : o.dst = none) (hx : s.ev x = some (.ref rb k)) (hy : s.ev y = some (.d v)) (hH : s.H = lits ++ F.objs base L) (hr : fnd lits rb = some row) (hn : row.nil = false)
    (hm : ∀ x, (F.pre x).length = m) (hc : row.cells = F.cells base L) (hk : k = p * (m + 1) + j) (hp : L[p]? = some x0) (hj : j < m) (uW : (V.d v).one = true) (wK : F.pre x' = (F.pre x0).set j v) (hit : F.it x' = F.it x0) : vm c o s (fun s' => s' = ⟨s.n, s.T, (rb, { row with cells := F.cells base (L.set p x') }) :: lits ++ F.objs base (L.set p x'), s.K⟩) := by
  have wl := (List.getElem?_eq_some_iff.1 hp).1
  have key := vA (l := F.cells base (L.set p x')) hi ho hd hx hy (row := row) (by rw [hH, vR, hr]) hn uW (by
    rw [hc, hk, Fam.cells_len hm]; have : p * (m + 1) + (m + 1) ≤ L.length * (m + 1) := by rw [← succ_mul]; exact Nat.mul_le_mul_right _ wl
    omega) (by rw [hc, hk, Fam.cells_setpre hm L base p j x0 x' v hp hj wK hit])
  rw [Fam.objs_setpre L base p x0 x' hp hit]; rw [hH] at key; exact key
end
def bhA (i o : Int) (c q : Nat) (v : Nat) (l : List Ar) : Nat := l.foldl (fun v a => if a.i = i ∧ a.o = o ∧ a.t = (q : Int) ∧ c + a.w.toNat < v then c + a.w.toNat else v) v
theorem qt1 {o : Int} {c v : Nat} {a : Ar} (h : l[k]? = some a) : bhA i o c q v (l.take (k + 1)) = if a.i = i ∧ a.o = o ∧ a.t = (q : Int) ∧ c + a.w.toNat < bhA i o c q v (l.take k) then c + a.w.toNat else bhA i o c q v (l.take k) := by
  unfold bhA; rw [x5 h, List.foldl_append]; rfl
def bhS (sts : List St) (d : List Nat) (i o : Int) (q : Nat) : Nat → Nat
  | 0 => big
  | k + 1 => if d.getD k big = big then bhS sts d i o q k else bhA i o (d.getD k big) q (bhS sts d i o q k) (stA sts k)
def bhD (sts : List St) (d : List Nat) (i o : Int) : List Nat := bl (fun q => bhS sts d i o q d.length) d.length
theorem qS2 (i o : Int) (c q v : Nat) : ∀ l : List Ar, bhA i o c q v l ≤ v
  | [] => le_refl _
  | a :: l => by
    unfold bhA; rw [List.foldl_cons]
    have := qS2 i o c q (if a.i = i ∧ a.o = o ∧ a.t = (q : Int) ∧ c + a.w.toNat < v then c + a.w.toNat else v) l
    unfold bhA at this; refine le_trans this ?_
    split <;> omega
theorem qS3 (sts : List St) (d : List Nat) (i o : Int) (q : Nat) : ∀ k, bhS sts d i o q k ≤ big
  | 0 => le_refl _
  | k + 1 => by
    rw [bhS]
    split
    · exact qS3 sts d i o q k
    exact le_trans (qS2 _ _ _ _ _ _) (qS3 sts d i o q k)
def bhM (sts : List St) (d : List Nat) (i o : Int) (c k j : Nat) (l : List Ar) : List Nat := bl (fun q => bhA i o c q (bhS sts d i o q k) (l.take j)) d.length
theorem js6 {o : Int} {c : Nat} {a : Ar} (h : l[j]? = some a) (hn : ∀ q, q < d.length → ¬ (a.i = i ∧ a.o = o ∧ a.t = (q : Int) ∧ c + a.w.toNat < bhA i o c q (bhS sts d i o q k) (l.take j))) : bhM sts d i o c k (j + 1) l = bhM sts d i o c k j l :=
  wh fun q hq => by rw [qt1 h, if_neg (hn q hq)]
theorem jE6 {o : Int} {c : Nat} {a : Ar} (h : l[j]? = some a) (hp : p < d.length) (hi : a.i = i) (ho : a.o = o) (ht : a.t = (p : Int)) (hw : c + a.w.toNat < bhA i o c p (bhS sts d i o p k) (l.take j)) : (bhM sts d i o c k j l).set p (c + a.w.toNat) = bhM sts d i o c k (j + 1) l := by
  refine bf hp ?_ fun q _ zT => ?_
  · rw [qt1 h, if_pos ⟨hi, ho, ht, hw⟩]
  grind [qt1]
def bhR (sts : List St) (d : List Nat) (i o : Int) (k : Nat) : List Nat := bl (fun q => bhS sts d i o q k) d.length
theorem js7 {o : Int} (h : d[k]? = some big) : bhR sts d i o (k + 1) = bhR sts d i o k := wh fun q _ => by rw [bhS, getD_eq_getElem?_getD, h, getD_some, if_pos rfl]
theorem qS4 (sts : List St) (d : List Nat) (i o : Int) (c k : Nat) (l : List Ar) : bhM sts d i o c k 0 l = bhR sts d i o k := rfl
theorem jE7 {o : Int} {c : Nat} {x : St} (hx : sts[k]? = some x) (hc : d[k]? = some c) (hb : c ≠ big) (hj : x.arcs.length ≤ j) : bhM sts d i o c k j x.arcs = bhR sts d i o (k + 1) := wh fun q _ => by
  grind [bhS, wo, take_of_length_le]
def mnL (l : List Nat) : Nat := l.foldl (fun n x => if x < n then x else n) big
theorem js8 {l : List Nat} {x : Nat} (h : l[k]? = some x) : mnL (l.take (k + 1)) = if x < mnL (l.take k) then x else mnL (l.take k) := by
  unfold mnL; rw [x5 h, List.foldl_append]; rfl
def prL (l : List Ar) : Nat → List Ar
  | 0 => []
  | k + 1 => match l[k]? with
    | none => prL l k
    | some a => if k = 0 ∨ (∃ b, l[k - 1]? = some b ∧ (a.i ≠ b.i ∨ a.o ≠ b.o)) then prL l k ++ [a] else prL l k
theorem qI1 {n : Nat} {seen : List Nat} (h1 : seen.Nodup) (h2 : ∀ j ∈ seen, j < n) (h3 : ∀ j, j < n → j ∈ seen) : seen.Perm (List.range n) :=
  (List.perm_ext_iff_of_nodup h1 List.nodup_range).2 fun j => ⟨fun h => List.mem_range.2 (h2 j h), fun h => h3 j (List.mem_range.1 h)⟩
theorem qf6 {α β : Type} (f : α → β) (x0 : α) (M : List α) {seen : List Nat} (h1 : seen.Nodup) (h2 : ∀ j ∈ seen, j < M.length) (h3 : ∀ j, j < M.length → j ∈ seen) : (seen.map fun j => f (M.getD j x0)).Perm (M.map f) := by
  have h := (qI1 h1 h2 h3).map (fun j => f (M.getD j x0))
  have e : (List.range M.length).map (fun j => f (M.getD j x0)) = M.map f := by
    refine ext_getElem? fun i => ?_
    by_cases hi : i < M.length
    · grind
    grind
  rw [← e]; exact h
theorem ql9 {n j : Nat} {seen : List Nat} (h1 : seen.Nodup) (h2 : ∀ i ∈ seen, i < n) (hj : j < n) (hns : j ∉ seen) : (seen ++ [j]).Nodup ∧ ∀ i ∈ seen ++ [j], i < n := by grind
theorem qf7 {n : Nat} {seen : List Nat} (h1 : seen.Nodup) (h2 : ∀ i ∈ seen, i < n) : seen.length ≤ n := ql6 h1 h2
def qa8 (l : List (Nat × Nat)) : List D := [.sl 2 16 (l.map fun e => [.p (.int .i64 (e.1 : Int)), .p (.int .i64 (e.2 : Int))])]
def vz (F : List Nat) (q d : Nat) : Prop := F[q]? = some d ∧ d ≠ 1000000001
def vn (E : List (List (Nat × Nat))) (q p w : Nat) : Prop := ∃ l, E[q]? = some l ∧ (p, w) ∈ l
def vL (x : Nat) : Nat := if x = big then 1000000001 else x
def okD (x : Nat) : Bool := decide (x = big ∨ x ≤ 1000000000)
def iC (x : Nat) : Nat := if x = 1000000001 then big else x
abbrev yl (l : List Nat) : D := .sl 1 8 (l.map vp)
def js9 (L : List Nat) (v : V) : Prop := L.all okD = true ∧ v = .tup [.d (yl (L.map vL)), .i 0] ∨ L.all okD = false ∧ v = .tup [.nil, .i 4]
def eTo (p q : Nat) (l : List Ar) : List (Nat × Nat) := (l.filter fun a => decide (a.t = (p : Int))).map fun a => (q, a.w.toNat)
def vd (sts : List St) (p : Nat) : Nat → List (Nat × Nat)
  | 0 => []
  | k + 1 => vd sts p k ++ eTo p k (stA sts k)
def enF (m : zr) : List Nat := bl (fun q => (m.states.getD q ⟨0, []⟩).fin.toNat) m.states.length
def enE (m : zr) : List (List (Nat × Nat)) := bl (fun p => vd m.states p m.states.length) m.states.length
theorem qS5 (p q : Nat) {i : Nat} {a : Ar} (h : l[i]? = some a) : eTo p q (l.take (i + 1)) = eTo p q (l.take i) ++ if a.t = (p : Int) then [(q, a.w.toNat)] else [] := by
  rw [x5 h]; unfold eTo; rw [List.filter_append, map_append]
  by_cases e : a.t = (p : Int) <;> simp [e]
theorem qC9 (p q : Nat) (l : List Ar) : (eTo p q l).length ≤ l.length := by grind [eTo, List.length_map, List.length_filter_le]
theorem q19 {sts : List St} (h : ∀ x ∈ sts, x.arcs.length ≤ 400) (p : Nat) : ∀ k, (vd sts p k).length ≤ 400 * k
  | 0 => by simp [vd]
  | k + 1 => by
    have h1 := q19 h p k; have h2 := qC9 p k (stA sts k); have h3 : (stA sts k).length ≤ 400 := by grind [stA, wo, mem_of_getElem?]
    simp only [vd, length_append]; omega
theorem q20 {sts : List St} {p : Nat} {e : Nat × Nat} : ∀ k, e ∈ vd sts p k ↔ ∃ q a, q < k ∧ a ∈ stA sts q ∧ a.t = (p : Int) ∧ e = (q, a.w.toNat)
  | 0 => by simp [vd]
  | k + 1 => by
    simp only [vd, mem_append, q20 k, eTo, mem_map, List.mem_filter, decide_eq_true_eq]
    constructor
    · grind
    grind
theorem j47 {m : zr} (hz : ∀ s ∈ m.states, ∀ a ∈ s.arcs, 0 ≤ a.t ∧ a.t < m.states.length ∧ 0 ≤ a.w) {w : Nat} : vn (enE m) p q w ↔ ∃ (x : St) (j : Nat) (a : Ar), m.states[q]? = some x ∧ x.arcs[j]? = some a ∧ a.t = (p : Int) ∧ a.w = (w : Int) := by
  constructor
  · rintro ⟨l, h1, h2⟩
    obtain ⟨hp, rfl⟩ := yx h1; obtain ⟨q', a, h3, h4, h5, h6⟩ := (q20 _).1 h2; simp only [Prod.mk.injEq] at h6; obtain ⟨rfl, h6⟩ := h6; have hx : m.states[q]? = some m.states[q] := List.getElem?_eq_getElem h3; rw [wo hx] at h4; obtain ⟨j, hj⟩ := List.getElem?_of_mem h4; obtain ⟨_, _, h7⟩ := hz _ (List.getElem_mem h3) a h4; exact ⟨_, j, a, hx, hj, h5, by omega⟩
  rintro ⟨x, j, a, h1, h2, h3, h4⟩; have hq : q < m.states.length := (List.getElem?_eq_some_iff.1 h1).1
  have hp : p < m.states.length := by
    obtain ⟨_, h5, _⟩ := hz x (mem_of_getElem? h1) a (mem_of_getElem? h2); omega
  exact ⟨_, w8 hp, (q20 _).2 ⟨q, a, hq, by rw [wo h1]; exact mem_of_getElem? h2, h3, by simp [h4]⟩⟩
noncomputable def enD (m : zr) : List Nat := ws (vz (enF m)) (vn (enE m)) m.states.length
noncomputable def wL (D : List Nat) (m : zr) : Int := if zn m ≠ 0 then zn m else if D.all okD then 0 else 4
noncomputable def wM (D : List Nat) (m : zr) : List Nat := if wL D m = 0 then D.map vL else []
def qS6 (e : Int) (L : List Nat) (v : V) : Prop := e ≠ 0 ∧ v = .tup [.nil, .i e] ∨ e = 0 ∧ v = .tup [.d (yl L), .i 0]
theorem j48 {D : List Nat} {m : zr} (h0 : zn m = 0) {v : V} (h : js9 D v) : qS6 (wL D m) (wM D m) v := by
  have hE : wL D m = if D.all okD then 0 else 4 := by unfold wL; rw [if_neg (by simp [h0])]
  unfold wM; rw [hE]
  rcases h with ⟨h1, h2⟩ | ⟨h1, h2⟩
  · rw [h1]; exact .inr ⟨rfl, h2⟩
  rw [h1]; exact .inl ⟨by decide, h2⟩
theorem qp4 {P : Program} {args : List V} {L : List Nat} (h : Fn P f args (qS6 e L)) (he : e ≠ 0) : Fn P f args (fun v => v = .tup [.nil, .i e]) := h.mono fun v hv => by
  rcases hv with ⟨_, hv⟩ | ⟨h0, _⟩
  · exact hv
  exact absurd h0 he
theorem qD0 {P : Program} {args : List V} {L : List Nat} (h : Fn P f args (qS6 e L)) (he : e = 0) : Fn P f args (fun v => v = .tup [.d (yl L), .i 0]) := h.mono fun v hv => by
  rcases hv with ⟨h0, _⟩ | ⟨_, hv⟩
  · exact absurd he h0
  exact hv
end Go.Proofs.YthiknkcigcglkaaGreatDoor
