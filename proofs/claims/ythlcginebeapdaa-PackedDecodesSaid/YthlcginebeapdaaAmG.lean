/- Rows of growing slices: each element has a slice of its own that may grow. States are told anew: frozen, renamed, adopted. -/
import Derived.Test.YthlcginebeapdaaAmU
namespace Go.Proofs.Ythlcginebeapdaa
open Go.RowKit
set_option linter.unusedSimpArgs false
set_option linter.unusedVariables false

/-- A value told anew: new ids lead to old ones by ρ; what no longer lives may be told as plain data. -/
inductive Cv (s s' : S) (ρ : Nat → Nat) : V → V → Prop
  | d (x : D) : Cv s s' ρ (.d x) (.d x)
  | ad (row : List D) : Cv s s' ρ (.ad row) (.ad row)
  | ref (k o : Nat) : Cv s s' ρ (.ref k o) (.ref (ρ k) o)
  | own (k sz n : Nat) (f : Bool) : Cv s s' ρ (.own k sz n f) (.own (ρ k) sz n f)
  | nil (k sz : Nat) : Cv s s' ρ (.own k sz 0 true) .nil
  | nil2 (k k' sz : Nat) : Cv s s' ρ (.own k sz 0 true) (.own k' sz 0 true)
  | junk (v : V) : Cv s s' ρ .junk v
  | same (v : V) (h : ∀ r, v.has r = true → ρ r = r) : Cv s s' ρ v v
  | frz (r sz n bt : Nat) (f : Bool) (row : Row) (rows : List (List D)) (hr : fnd s.H r = some row) (hf : row.nil = f) (hlen : rows.length = n) (hn : n * bt ≤ 140737488355328)
      (hrows : ∀ (i j : Nat) (l : List D) (u : D), rows[i]? = some l → l[j]? = some u → row.cells[i * sz + j]? = some (.d u)) (hz : ∀ k row', fnd s'.H k = some row' → row'.nil = false → ρ k ≠ r) : Cv s s' ρ (.d (.sl sz bt rows)) (.own r sz n f)
  | agg (l' l : List V) (hl : l'.length = l.length) (h : ∀ (j : Nat) (u v : V), l'[j]? = some u → l[j]? = some v → Cv s s' ρ u v) : Cv s s' ρ (.agg l') (.agg l)
  | fn (f : FuncId) (l' l : List V) (hl : l'.length = l.length) (h : ∀ (j : Nat) (u v : V), l'[j]? = some u → l[j]? = some v → Cv s s' ρ u v) : Cv s s' ρ (.fn f l') (.fn f l)

section
variable {c : Cx} {s s' : S} {g : Nat → Nat × Nat} {a : Act} {w : World} {ρ : Nat → Nat}

theorem Sim.conv (h : Sim c g s a w) (ρ : Nat → Nat) (hn : s'.n = s.n)
    (hT : ∀ (i : Nat) (v' : V), fnd s'.T i = some v' → ∃ v, fnd s.T i = some v ∧ Cv s s' ρ v' v)
    (hH : ∀ (r : Nat) (row' : Row), fnd s'.H r = some row' → row'.nil = true ∧ row'.cells = [] ∨ row'.nil = false ∧ ∃ row, fnd s.H (ρ r) = some row ∧ row.nil = false ∧ row'.ty = row.ty ∧ row'.sz = row.sz ∧ ∀ (j : Nat) (v' : V), row'.cells[j]? = some v' → ∃ v, row.cells[j]? = some v ∧ Cv s s' ρ v' v)
    (hK : ∀ (j : Nat) (v' : V), s'.K[j]? = some v' → ∃ v, s.K[j]? = some v ∧ Cv s s' ρ v' v)
    (hinj : ∀ r r' row row', fnd s'.H r = some row → row.nil = false → fnd s'.H r' = some row' → row'.nil = false → ρ r = ρ r' → r = r') : Sim c (fun k => g (ρ k)) s' a w := by
  have hlive : ∀ r row', fnd s'.H r = some row' → row'.nil = false → ∃ row, fnd s.H (ρ r) = some row ∧ row.nil = false := by
    intro r row' hr hrn
    rcases hH r row' hr with ⟨h1, _⟩ | ⟨_, row, h1, h2, _⟩
    · rw [hrn] at h1; cases h1
    · exact ⟨row, h1, h2⟩
  have hq : ∀ b, qt c s.H g b → b < w.heap.size → qt c s'.H (fun k => g (ρ k)) b := fun b hb _ => ⟨hb.1, fun r row' hr hrn => by
    obtain ⟨row, h1, h2⟩ := hlive r row' hr hrn
    exact hb.2 (ρ r) row h1 h2⟩
  have hm : ∀ {v' v}, Cv s s' ρ v' v → ∀ {x}, VRep w (qt c s.H g) g v x → VRep w (qt c s'.H (fun k => g (ρ k))) (fun k => g (ρ k)) v' x := by
    intro v' v hc
    induction hc with
    | d x => intro y hy; cases hy with | d _ _ h1 => exact .d _ _ (h1.mono Cells.rfl hq)
    | ad row =>
      intro y hy
      cases hy with
      | ad _ b o f h1 h2 h3 => exact .ad _ b o f ⟨hq b h1.1 h1.2, h1.2⟩ h2 fun j u hu => (h3 j u hu).mono Cells.rfl hq
    | ref k o =>
      intro y hy
      cases hy with
      | ref => exact VRep.ref (g := fun k => g (ρ k)) k o
    | own k sz n f =>
      intro y hy
      cases hy with
      | own _ _ _ h1 h2 => exact VRep.own (g := fun k => g (ρ k)) k sz n h1 h2
      | ownNil => exact .ownNil k sz
    | nil k sz =>
      intro y hy
      rw [VRep.p_eq hy]
      exact .ownNil k sz
    | nil2 k k' sz =>
      intro y hy
      cases hy
      exact .ownNil k sz
    | junk v => intro y _; exact .junk _
    | same v hv => intro y hy; exact hy.mono Cells.rfl hq (fun r hr => by rw [hv r hr])
    | frz r sz n bt f row rows hr hf hlen hn hrows hz =>
      intro y hy
      refine .d _ _ ?_
      cases hy with
      | own _ _ _ hle hcap =>
        obtain ⟨arr, h3, _, h4⟩ := h.obj r row hr hf
        subst hlen
        have hob : ¬ c.out (g r).1 := fun ho => by
          have h5 := h.low _ ho
          have h6 := h.base r row hr hf
          omega
        refine .sl sz bt rows _ _ (g r).1 0 (fun i j => arr.getD (i * sz + j) undef) (by omega) (fun _ => ⟨rfl, ⟨hob, fun k row' hk hkn e => ?_⟩, (Array.getElem?_eq_some_iff.1 h3).1⟩) hn ?_ ?_
        · obtain ⟨row2, k1, k2⟩ := hlive k row' hk hkn
          exact hz k row' hk hkn (h.inj (ρ k) r _ _ k1 k2 hr hf e)
        · intro i j l u hi hj
          obtain ⟨y, h5, h6⟩ := h4 _ _ (hrows i j l u hi hj)
          rw [Nat.zero_add, cell_of_row w _ _ _ _ _ h3, h5]
          simp [Array.getD_eq_getD_getElem?, h5]
        · intro i j l u hi hj
          obtain ⟨y, h5, h6⟩ := h4 _ _ (hrows i j l u hi hj)
          cases h6 with
          | d _ _ h7 => simpa [Array.getD_eq_getD_getElem?, h5] using h7.mono Cells.rfl hq
      | ownNil =>
        have : rows = [] := by simpa using hlen
        subst this
        exact .sl sz bt [] none 0 0 0 (fun _ _ => undef) (Nat.le_refl 0) (fun h => absurd rfl h) (by simp) (by simp) (by simp)
    | agg l' l hl hh ih =>
      intro y hy
      cases hy with
      | agg _ cs hlen h2 =>
        refine .agg _ cs (by omega) fun j u z hu hz => ?_
        have hj : j < l.length := by rw [← hl]; exact (List.getElem?_eq_some_iff.1 hu).1
        exact ih j u l[j] hu (List.getElem?_eq_getElem hj) (h2 j _ z (List.getElem?_eq_getElem hj) hz)
    | fn f l' l hl hh ih =>
      intro y hy
      cases hy with
      | fn _ _ cs hlen h2 =>
        refine .fn _ _ cs (by omega) fun j u z hu hz => ?_
        have hj : j < l.length := by rw [← hl]; exact (List.getElem?_eq_some_iff.1 hu).1
        exact ih j u l[j] hu (List.getElem?_eq_getElem hj) (h2 j _ z (List.getElem?_eq_getElem hj) hz)
  refine ⟨by rw [hn]; exact h.size, h.defers, ?_, ?_, ?_, ?_, ?_, ?_, h.low, h.below⟩
  · intro i v' hv
    obtain ⟨v, h1, h2⟩ := hT i v' hv
    obtain ⟨x, h3, h4⟩ := h.tmp i v h1
    exact ⟨x, h3, hm h2 h4⟩
  · intro r row' hr hrn
    rcases hH r row' hr with ⟨_, h1⟩ | ⟨h1, _⟩
    · exact h1
    · rw [hrn] at h1; cases h1
  · intro r row' hr hrn
    rcases hH r row' hr with ⟨h1, _⟩ | ⟨_, row, h1, h2, h3, h4, h5⟩
    · rw [hrn] at h1; cases h1
    · obtain ⟨arr, h6, h7, h8⟩ := h.obj (ρ r) row h1 h2
      refine ⟨arr, by rw [h3]; exact h6, by rw [h4]; exact h7, fun j v' hv => ?_⟩
      obtain ⟨v, h9, h10⟩ := h5 j v' hv
      obtain ⟨x, h11, h12⟩ := h8 j v h9
      exact ⟨x, h11, hm h10 h12⟩
  · intro j v' x h1 h2
    obtain ⟨v, h3, h4⟩ := hK j v' h1
    exact hm h4 (h.keep j v x h3 h2)
  · intro r r' row1 row2 h1 n1 h2 n2 h3
    obtain ⟨r1, k1, m1⟩ := hlive r row1 h1 n1
    obtain ⟨r2, k2, m2⟩ := hlive r' row2 h2 n2
    exact hinj r r' _ _ h1 n1 h2 n2 (h.inj _ _ _ _ k1 m1 k2 m2 h3)
  · intro r row' h1 n1
    obtain ⟨r1, k1, m1⟩ := hlive r row' h1 n1
    exact h.base (ρ r) _ k1 m1
end

/-- A row of elements, each with plain cells ahead and a slice of its own behind. -/
structure Fam (β : Type) where
  ty : TypeId
  sz : Nat
  bt : Nat
  pre : β → List D
  it : β → List (List D)

section
variable {β : Type} (F : Fam β)
def Fam.row (x : β) : Row := ⟨F.ty, (F.it x).flatten.map V.d, (F.it x).isEmpty, F.sz⟩
def Fam.ownV (k : Nat) (x : β) : V := .own k F.sz (F.it x).length (F.it x).isEmpty
def Fam.cells : Nat → List β → List V
  | _, [] => []
  | k, x :: l => (F.pre x).map V.d ++ F.ownV k x :: Fam.cells (k + 1) l
def Fam.objs : Nat → List β → List (Nat × Row)
  | _, [] => []
  | k, x :: l => (k, F.row x) :: Fam.objs (k + 1) l
def Fam.data (x : β) : List D := F.pre x ++ [.sl F.sz F.bt (F.it x)]
variable {F}

theorem Fam.objs_get : ∀ (l : List β) (k p : Nat), fnd (F.objs k l) (k + p) = (l[p]?).map F.row
  | [], k, p => by simp [Fam.objs, fnd]
  | x :: l, k, 0 => by simp [Fam.objs, fnd]
  | x :: l, k, p + 1 => by
    have := Fam.objs_get l (k + 1) p
    simp only [Fam.objs, fnd]
    rw [if_neg (by simp), show k + (p + 1) = k + 1 + p by omega, this]
    simp
theorem Fam.objs_low : ∀ (l : List β) (k r : Nat), r < k → fnd (F.objs k l) r = none
  | [], k, r, h => by simp [Fam.objs, fnd]
  | x :: l, k, r, h => by
    simp only [Fam.objs, fnd]
    rw [if_neg (by simp; omega)]
    exact Fam.objs_low l (k + 1) r (by omega)
theorem Fam.objs_inv {l : List β} {k r : Nat} {row : Row} (h : fnd (F.objs k l) r = some row) : ∃ p x, r = k + p ∧ l[p]? = some x ∧ row = F.row x := by
  have hr : k ≤ r := by
    by_cases hh : r < k
    · rw [Fam.objs_low l k r hh] at h; cases h
    · omega
  obtain ⟨p, rfl⟩ : ∃ p, r = k + p := ⟨r - k, by omega⟩
  rw [Fam.objs_get] at h
  cases hx : l[p]? with
  | none => rw [hx] at h; cases h
  | some x => rw [hx] at h; simp at h; exact ⟨p, x, rfl, hx, h.symm⟩
theorem hasL_dmap (r : Nat) (l : List D) : V.hasL r (l.map V.d) = false := by simp [V.hasL_false, V.has]
theorem Fam.cells_hasL : ∀ (l : List β) (k r : Nat), r < k → V.hasL r (F.cells k l) = false
  | [], k, r, h => rfl
  | x :: l, k, r, h => by
    have hkr : (k == r) = false := by simp; omega
    simp only [Fam.cells, hasL_append, hasL_dmap, V.hasL, Fam.ownV, V.has, hkr, Bool.false_or]
    exact Fam.cells_hasL l (k + 1) r (by omega)
theorem Fam.row_hasL (x : β) (r : Nat) : V.hasL r (F.row x).cells = false := hasL_dmap _ _
theorem Fam.objs_clean : ∀ (l : List β) (k r : Nat), r < k → (F.objs k l).all (fun x => x.1 != r && !V.hasL r x.2.cells) = true
  | [], k, r, h => rfl
  | x :: l, k, r, h => by
    simp only [Fam.objs, List.all_cons, Fam.row_hasL, Bool.not_false, Bool.and_true]
    rw [Fam.objs_clean l (k + 1) r (by omega)]
    simp
    omega
theorem Fam.objs_filter : ∀ (l : List β) (k r : Nat), r < k → (F.objs k l).filter (fun x => x.1 != r) = F.objs k l
  | [], k, r, h => rfl
  | x :: l, k, r, h => by
    simp only [Fam.objs, List.filter_cons]
    rw [if_pos (by simp; omega), Fam.objs_filter l (k + 1) r (by omega)]
theorem Fam.objs_forget : ∀ (l : List β) (k r : Nat), (F.objs k l).map (fun x => (x.1, ({ x.2 with cells := if V.hasL r x.2.cells then x.2.cells.map (junkIf r) else x.2.cells } : Row))) = F.objs k l
  | [], k, r => rfl
  | x :: l, k, r => by
    simp only [Fam.objs, List.map_cons, Fam.row_hasL, Bool.false_eq_true, if_false]
    rw [Fam.objs_forget l (k + 1) r]
theorem Fam.cells_len {m : Nat} (hm : ∀ x, (F.pre x).length = m) : ∀ (l : List β) (k : Nat), (F.cells k l).length = l.length * (m + 1)
  | [], k => by simp [Fam.cells]
  | x :: l, k => by
    simp only [Fam.cells, List.length_append, List.length_map, List.length_cons, hm, Fam.cells_len hm l (k + 1)]
    rw [Nat.succ_mul]; omega
theorem Fam.cells_own {m : Nat} (hm : ∀ x, (F.pre x).length = m) : ∀ (l : List β) (k p : Nat) (x : β), l[p]? = some x → (F.cells k l)[p * (m + 1) + m]? = some (F.ownV (k + p) x)
  | [], k, p, x, h => by simp at h
  | y :: l, k, 0, x, h => by
    simp at h
    subst h
    simp only [Fam.cells, Nat.zero_mul, Nat.zero_add, Nat.add_zero]
    rw [List.getElem?_append_right (by simp [hm])]
    simp [hm]
  | y :: l, k, p + 1, x, h => by
    have := Fam.cells_own hm l (k + 1) p x (by simpa using h)
    simp only [Fam.cells]
    rw [List.getElem?_append_right (by simp [hm])]
    simp only [List.length_map, hm]
    rw [show (p + 1) * (m + 1) + m - m = (p * (m + 1) + m) + 1 by rw [Nat.succ_mul]; omega, List.getElem?_cons_succ, this, show k + 1 + p = k + (p + 1) by omega]
theorem Fam.cells_pre {m : Nat} (hm : ∀ x, (F.pre x).length = m) : ∀ (l : List β) (k p j : Nat) (x : β) (d : D), l[p]? = some x → (F.pre x)[j]? = some d → (F.cells k l)[p * (m + 1) + j]? = some (.d d)
  | [], k, p, j, x, d, h, hd => by simp at h
  | y :: l, k, 0, j, x, d, h, hd => by
    simp at h
    subst h
    have hj := (List.getElem?_eq_some_iff.1 hd).1
    simp only [Fam.cells, Nat.zero_mul, Nat.zero_add]
    rw [List.getElem?_append_left (by simpa using hj)]
    simp [hd]
  | y :: l, k, p + 1, j, x, d, h, hd => by
    have := Fam.cells_pre hm l (k + 1) p j x d (by simpa using h) hd
    simp only [Fam.cells]
    rw [List.getElem?_append_right (by simp [hm]; rw [Nat.succ_mul]; omega)]
    simp only [List.length_map, hm]
    rw [show (p + 1) * (m + 1) + j - m = (p * (m + 1) + j) + 1 by rw [Nat.succ_mul]; omega, List.getElem?_cons_succ, this]
theorem Fam.cells_app : ∀ (l : List β) (k : Nat) (x : β), F.cells k (l ++ [x]) = F.cells k l ++ ((F.pre x).map V.d ++ [F.ownV (k + l.length) x])
  | [], k, x => by simp [Fam.cells]
  | y :: l, k, x => by
    simp only [List.cons_append, Fam.cells, Fam.cells_app l (k + 1) x, List.length_cons, show k + 1 + l.length = k + (l.length + 1) by omega]
    simp
theorem Fam.cells_setown {m : Nat} (hm : ∀ x, (F.pre x).length = m) : ∀ (l : List β) (k p : Nat) (x x' : β) (u : V), l[p]? = some x → F.pre x' = F.pre x → (F.cells k (l.set p x')).set (p * (m + 1) + m) u = (F.cells k l).set (p * (m + 1) + m) u
  | [], k, p, x, x', u, h, hp => by simp at h
  | y :: l, k, 0, x, x', u, h, hp => by
    simp at h
    subst h
    simp only [List.set_cons_zero, Fam.cells, Nat.zero_mul, Nat.zero_add, hp]
    rw [List.set_append_right _ _ (by simp [hm]), List.set_append_right _ _ (by simp [hm])]
    simp [hm]
  | y :: l, k, p + 1, x, x', u, h, hp => by
    have := Fam.cells_setown hm l (k + 1) p x x' u (by simpa using h) hp
    simp only [List.set_cons_succ, Fam.cells]
    have e : (p + 1) * (m + 1) + m - m = (p * (m + 1) + m) + 1 := by rw [Nat.succ_mul]; omega
    have e2 : m ≤ (p + 1) * (m + 1) + m := by omega
    rw [List.set_append_right _ _ (by simp only [List.length_map, hm]; exact e2), List.set_append_right _ _ (by simp only [List.length_map, hm]; exact e2)]
    simp only [List.length_map, hm, e, List.set_cons_succ, this]
theorem Fam.cells_put {m : Nat} (hm : ∀ x, (F.pre x).length = m) {l : List β} {k p : Nat} {x : β} (h : l[p]? = some x) : ((F.cells k l).set (p * (m + 1) + m) .junk).set (p * (m + 1) + m) (F.ownV (k + p) x) = F.cells k l := by
  rw [List.set_set]
  have := Fam.cells_own hm l k p x h
  refine List.ext_getElem? fun i => ?_
  rw [List.getElem?_set]
  split
  · rename_i e
    subst e
    rw [if_pos (List.getElem?_eq_some_iff.1 this).1, this]
  · rfl
theorem Fam.cells_setpre {m : Nat} (hm : ∀ x, (F.pre x).length = m) : ∀ (l : List β) (k p j : Nat) (x x' : β) (d : D), l[p]? = some x → j < m → F.pre x' = (F.pre x).set j d → F.it x' = F.it x → (F.cells k l).set (p * (m + 1) + j) (.d d) = F.cells k (l.set p x')
  | [], k, p, j, x, x', d, h, hj, hp, hi => by simp at h
  | y :: l, k, 0, j, x, x', d, h, hj, hp, hi => by
    simp at h
    subst h
    simp only [List.set_cons_zero, Fam.cells, Nat.zero_mul, Nat.zero_add, hp, Fam.ownV, hi]
    rw [List.set_append_left _ _ (by simpa [hm] using hj), List.map_set]
  | y :: l, k, p + 1, j, x, x', d, h, hj, hp, hi => by
    have := Fam.cells_setpre hm l (k + 1) p j x x' d (by simpa using h) hj hp hi
    simp only [List.set_cons_succ, Fam.cells]
    have e : (p + 1) * (m + 1) + j - m = (p * (m + 1) + j) + 1 := by rw [Nat.succ_mul]; omega
    have e2 : m ≤ (p + 1) * (m + 1) + j := by rw [Nat.succ_mul]; omega
    rw [List.set_append_right _ _ (by simp only [List.length_map, hm]; exact e2)]
    simp only [List.length_map, hm, e, List.set_cons_succ, this]
theorem Fam.objs_setpre : ∀ (l : List β) (k p : Nat) (x x' : β), l[p]? = some x → F.it x' = F.it x → F.objs k (l.set p x') = F.objs k l
  | [], k, p, x, x', h, hi => rfl
  | y :: l, k, 0, x, x', h, hi => by
    simp at h
    subst h
    simp only [List.set_cons_zero, Fam.objs, Fam.row, hi]
  | y :: l, k, p + 1, x, x', h, hi => by
    simp only [List.set_cons_succ, Fam.objs]
    rw [Fam.objs_setpre l (k + 1) p x x' (by simpa using h) hi]
end
end Go.Proofs.Ythlcginebeapdaa
