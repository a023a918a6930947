/- Part 3 of what the law EmptiesRemoves rests on. -/
import Derived.Deep.Upon
import Derived.Test.YthlcginebeapdaaPkEm1
import Derived.Test.YthlcginebeapdaaPkEm2
namespace Go.Proofs.Ythlcginebeapdaa
open Go.RowKit
set_option linter.unusedSimpArgs false
set_option linter.unusedVariables false

section
variable {c : Cx} {Q : Exit → S → Prop} {s : S} {o : Oper}

open Classical in
/-- A loop whose invariant tells how far it still is. -/
theorem AW.loopN {x : Code} (I : Nat → S → Prop) (h0 : ∃ n s', Less s' s ∧ I n s')
    (round : ∀ n s, I n s → AW c x (thenS (fun s' => ∃ m s'', Less s'' s' ∧ I m s'' ∧ m < n) Q) s) : AW c (.loop x) Q s := by
  refine AW.loop (fun s => ∃ n, I n s) (fun s => if h : ∃ n, I n s then Classical.choose (least_nat h) else 0) ?_ ?_
  · obtain ⟨n, s', h1, h2⟩ := h0
    exact ⟨s', h1, n, h2⟩
  · intro s hs
    obtain ⟨hc1, hc2⟩ := Classical.choose_spec (least_nat hs)
    refine (round _ s hc1).mono fun e s' hq => ?_
    cases e
    case normal =>
      obtain ⟨m, s'', h1, h2, h3⟩ := hq
      refine ⟨s'', h1, ⟨m, h2⟩, ?_⟩
      have hs'' : ∃ n, I n s'' := ⟨m, h2⟩
      simp only [dif_pos hs, dif_pos hs'']
      have := (Classical.choose_spec (least_nat hs'')).2 m h2
      omega
    all_goals exact hq

theorem st_store_map2 {α : Type} {t : TypeId} {bt : Nat} {z : Value} {x y : Operand} {r k : Nat} {row : Row} {l : List α} {f : α → V} {v : α} (hi : Inf c.P t 1 bt z) (ho : o.op = .store t x y) (hd : o.dst = none) (hx : s.ev x = some (.ref r (k * 1))) (hr : fnd s.H r = some row) (hn : row.nil = false)
    (hf : row.cells = l.map f) (hy : s.ev y = some (f v)) (hok : (f v).one = true) (hfit : k < l.length) : Step c o s (fun s' => s' = { s with H := (r, { row with cells := (l.set k v).map f }) :: s.H }) := st_store_map hi ho hd hx hy hr hn hf hok hfit
/-- A state that says less: fewer cells of one object. -/
theorem Less.cut (r : Nat) (cells : List V) {row : Row} (hr : fnd s.H r = some row) (hp : ∃ more, row.cells = cells ++ more) : Less ⟨s.n, s.T, (r, { row with cells := cells }) :: s.H, s.K⟩ s := by
  obtain ⟨more, hp⟩ := hp
  refine ⟨rfl, fun i v h => ⟨v, h, .refl _⟩, fun k row' hk => ?_, fun j v h => ⟨v, h, .refl _⟩⟩
  simp only [fnd] at hk
  split at hk
  · rename_i e
    simp only [beq_iff_eq] at e
    subst e
    simp only [Option.some.injEq] at hk
    subst hk
    refine ⟨row, hr, rfl, rfl, rfl, fun j v hv => ⟨v, ?_, .refl _⟩⟩
    rw [hp, List.getElem?_append_left (List.getElem?_eq_some_iff.1 hv).1]
    exact hv
  · exact ⟨row', hk, rfl, rfl, rfl, fun j v hv => ⟨v, hv, .refl _⟩⟩
theorem AL.cut {ops : Array Oper} {l : List Oper} (r : Nat) (cells : List V) {row : Row} (hr : fnd s.H r = some row) (hp : ∃ more, row.cells = cells ++ more) (h : AL c ops l Q ⟨s.n, s.T, (r, { row with cells := cells }) :: s.H, s.K⟩) : AL c ops l Q s := AL.less (Less.cut r cells hr hp) h
theorem AW.cut {x : Code} (r : Nat) (cells : List V) {row : Row} (hr : fnd s.H r = some row) (hp : ∃ more, row.cells = cells ++ more) (h : AW c x Q ⟨s.n, s.T, (r, { row with cells := cells }) :: s.H, s.K⟩) : AW c x Q s := AW.less (Less.cut r cells hr hp) h
end

/-- A result that says less. -/
inductive WkR : V → V → Prop
  | one {v' v : V} (h : Wk v' v) : WkR v' v
  | tup {l' l : List V} (hl : l'.length = l.length) (h : ∀ (j : Nat) (u v : V), l'[j]? = some u → l[j]? = some v → Wk u v) : WkR (.tup l') (.tup l)
theorem WkR.rep {w : World} {q : Nat → Prop} {g : Nat → Nat × Nat} {v' v : V} {x : Value} (h : WkR v' v) (hv : VRep w q g v x) : VRep w q g v' x := by
  cases h with
  | one h => exact h.rep hv
  | tup hl h =>
    cases hv with
    | tup _ cs hlen hh =>
      refine .tup _ cs (by omega) fun j u y hu hy => ?_
      have hj := (List.getElem?_eq_some_iff.1 hu).1
      rename_i l' l
      have hj' : j < l.length := by omega
      exact (h j u l[j] hu (List.getElem?_eq_getElem hj')).rep (hh j _ y (List.getElem?_eq_getElem hj') hy)
theorem Fn.eqi {P : Program} {f : FuncId} {args : List V} {x y : Int} (h : Fn P f args (fun v => v = .i x)) (e : x = y) : Fn P f args (fun v => v = .i y) := by subst e; exact h
theorem Fn.eqv {P : Program} {f : FuncId} {args : List V} {x y : V} (h : Fn P f args (fun v => v = x)) (e : x = y) : Fn P f args (fun v => v = y) := by subst e; exact h
theorem Fn.wkS {P : Program} {f : FuncId} {args : List V} {post post' : V → Prop} (h : Fn P f args post) (hp : ∀ v, post v → v.pure → ∃ v', post' v' ∧ v'.pure ∧ ∀ w q g x, VRep w q g v x → VRep w q g v' x) : Fn P f args post' := fun w out g xs h1 h2 =>
  (h w out g xs h1 h2).mono fun e w' ⟨v, x, h3, h4, h5, h6, h7⟩ => by
    obtain ⟨v', k1, k2, k3⟩ := hp v h4 h5
    exact ⟨v', x, h3, k1, k2, k3 _ _ _ _ h6, h7⟩
theorem rep_tup2 {u u' v : V} (h : ∀ w q g x, VRep w q g u x → VRep w q g u' x) : ∀ w q g x, VRep w q g (.tup [u, v]) x → VRep w q g (.tup [u', v]) x := by
  intro w q g x hx
  cases hx with
  | tup _ cs hl hh =>
    refine .tup _ cs hl fun j y z hy hz => ?_
    match j, hy with
    | 0, hy => simp at hy; subst hy; exact h _ _ _ _ (hh 0 u z rfl hz)
    | 1, hy => exact hh 1 y z hy hz
    | n + 2, hy => simp at hy
theorem rep_zeroM (n : Int) : ∀ w q g x, VRep w q g (.agg [.i n, .nil]) x → VRep w q g (.agg [.i n, .d (.sl 2 32 [])]) x := by
  intro w q g x hx
  cases hx with
  | agg _ cs hl hh =>
    refine .agg _ cs hl fun j y z hy hz => ?_
    match j, hy with
    | 0, hy => exact hh 0 y z hy hz
    | 1, hy => simp at hy; subst hy; exact (Wk.nil 2 32).rep (hh 1 .nil z rfl hz)
    | n + 2, hy => simp at hy
/-- Either an error with nothing, or the machine. -/
def resP (e : Int) (M : Mach) (v : V) : Prop := e ≠ 0 ∧ v = .tup [.agg [.i 0, .nil], .i e] ∨ e = 0 ∧ v = .tup [mV M, .i 0]
theorem resP_wk {e : Int} {M : Mach} (hM : e ≠ 0 → M = ⟨0, []⟩) (v : V) (h : resP e M v) (_ : v.pure) : ∃ v', v' = .tup [mV M, .i e] ∧ v'.pure ∧ ∀ w q g x, VRep w q g v x → VRep w q g v' x := by
  refine ⟨_, rfl, by simp [V.pure, V.has, V.hasL], ?_⟩
  rcases h with ⟨h0, rfl⟩ | ⟨h0, rfl⟩
  · rw [hM h0]
    exact rep_tup2 (rep_zeroM 0)
  · rw [h0]
    exact fun _ _ _ _ h => h
end Go.Proofs.Ythlcginebeapdaa
namespace Go.Proofs.Ythlcginebeapdaa
open Go.RowKit
set_option linter.unusedSimpArgs false
set_option linter.unusedVariables false

/-- A value told anew: new ids lead to old ones by ρ; what no longer lives may be told as plain data. -/
inductive Cv (s s' : S) (ρ : Nat → Nat) : V → V → Prop
  | d (x : D) : Cv s s' ρ (.d x) (.d x)
  | ad (row : List D) : Cv s s' ρ (.ad row) (.ad row)
  | ref (k o : Nat) : Cv s s' ρ (.ref k o) (.ref (ρ k) o)
  | own (k sz n : Nat) (f : Bool) : Cv s s' ρ (.own k sz n f) (.own (ρ k) sz n f)
  | nil (k sz : Nat) : Cv s s' ρ (.own k sz 0 true) .nil
  | nil2 (k k' sz : Nat) : Cv s s' ρ (.own k sz 0 true) (.own k' sz 0 true)
  | junk (v : V) : Cv s s' ρ .junk v
  | same (v : V) (h : ∀ r, v.has r = true → ρ r = r) : Cv s s' ρ v v
  | frz (r sz n bt : Nat) (f : Bool) (row : Row) (rows : List (List D)) (hr : fnd s.H r = some row) (hf : row.nil = f) (hlen : rows.length = n) (hn : n * bt ≤ 140737488355328)
      (hrows : ∀ (i j : Nat) (l : List D) (u : D), rows[i]? = some l → l[j]? = some u → row.cells[i * sz + j]? = some (.d u)) (hz : ∀ k row', fnd s'.H k = some row' → row'.nil = false → ρ k ≠ r) : Cv s s' ρ (.d (.sl sz bt rows)) (.own r sz n f)
  | agg (l' l : List V) (hl : l'.length = l.length) (h : ∀ (j : Nat) (u v : V), l'[j]? = some u → l[j]? = some v → Cv s s' ρ u v) : Cv s s' ρ (.agg l') (.agg l)
  | fn (f : FuncId) (l' l : List V) (hl : l'.length = l.length) (h : ∀ (j : Nat) (u v : V), l'[j]? = some u → l[j]? = some v → Cv s s' ρ u v) : Cv s s' ρ (.fn f l') (.fn f l)

section
variable {c : Cx} {s s' : S} {g : Nat → Nat × Nat} {a : Act} {w : World} {ρ : Nat → Nat}

theorem Sim.conv (h : Sim c g s a w) (ρ : Nat → Nat) (hn : s'.n = s.n)
    (hT : ∀ (i : Nat) (v' : V), fnd s'.T i = some v' → ∃ v, fnd s.T i = some v ∧ Cv s s' ρ v' v)
    (hH : ∀ (r : Nat) (row' : Row), fnd s'.H r = some row' → row'.nil = true ∧ row'.cells = [] ∨ row'.nil = false ∧ ∃ row, fnd s.H (ρ r) = some row ∧ row.nil = false ∧ row'.ty = row.ty ∧ row'.sz = row.sz ∧ ∀ (j : Nat) (v' : V), row'.cells[j]? = some v' → ∃ v, row.cells[j]? = some v ∧ Cv s s' ρ v' v)
    (hK : ∀ (j : Nat) (v' : V), s'.K[j]? = some v' → ∃ v, s.K[j]? = some v ∧ Cv s s' ρ v' v)
    (hinj : ∀ r r' row row', fnd s'.H r = some row → row.nil = false → fnd s'.H r' = some row' → row'.nil = false → ρ r = ρ r' → r = r') : Sim c (fun k => g (ρ k)) s' a w := by
  have hlive : ∀ r row', fnd s'.H r = some row' → row'.nil = false → ∃ row, fnd s.H (ρ r) = some row ∧ row.nil = false := by
    intro r row' hr hrn
    rcases hH r row' hr with ⟨h1, _⟩ | ⟨_, row, h1, h2, _⟩
    · rw [hrn] at h1; cases h1
    · exact ⟨row, h1, h2⟩
  have hq : ∀ b, qt c s.H g b → b < w.heap.size → qt c s'.H (fun k => g (ρ k)) b := fun b hb _ => ⟨hb.1, fun r row' hr hrn => by
    obtain ⟨row, h1, h2⟩ := hlive r row' hr hrn
    exact hb.2 (ρ r) row h1 h2⟩
  have hm : ∀ {v' v}, Cv s s' ρ v' v → ∀ {x}, VRep w (qt c s.H g) g v x → VRep w (qt c s'.H (fun k => g (ρ k))) (fun k => g (ρ k)) v' x := by
    intro v' v hc
    induction hc with
    | d x => intro y hy; cases hy with | d _ _ h1 => exact .d _ _ (h1.mono Cells.rfl hq)
    | ad row =>
      intro y hy
      cases hy with
      | ad _ b o f h1 h2 h3 => exact .ad _ b o f ⟨hq b h1.1 h1.2, h1.2⟩ h2 fun j u hu => (h3 j u hu).mono Cells.rfl hq
    | ref k o =>
      intro y hy
      cases hy with
      | ref => exact VRep.ref (g := fun k => g (ρ k)) k o
    | own k sz n f =>
      intro y hy
      cases hy with
      | own _ _ _ h1 h2 => exact VRep.own (g := fun k => g (ρ k)) k sz n h1 h2
      | ownNil => exact .ownNil k sz
    | nil k sz =>
      intro y hy
      rw [VRep.p_eq hy]
      exact .ownNil k sz
    | nil2 k k' sz =>
      intro y hy
      cases hy
      exact .ownNil k sz
    | junk v => intro y _; exact .junk _
    | same v hv => intro y hy; exact hy.mono Cells.rfl hq (fun r hr => by rw [hv r hr])
    | frz r sz n bt f row rows hr hf hlen hn hrows hz =>
      intro y hy
      refine .d _ _ ?_
      cases hy with
      | own _ _ _ hle hcap =>
        obtain ⟨arr, h3, _, h4⟩ := h.obj r row hr hf
        subst hlen
        have hob : ¬ c.out (g r).1 := fun ho => by
          have h5 := h.low _ ho
          have h6 := h.base r row hr hf
          omega
        refine .sl sz bt rows _ _ (g r).1 0 (fun i j => arr.getD (i * sz + j) undef) (by omega) (fun _ => ⟨rfl, ⟨hob, fun k row' hk hkn e => ?_⟩, (Array.getElem?_eq_some_iff.1 h3).1⟩) hn ?_ ?_
        · obtain ⟨row2, k1, k2⟩ := hlive k row' hk hkn
          exact hz k row' hk hkn (h.inj (ρ k) r _ _ k1 k2 hr hf e)
        · intro i j l u hi hj
          obtain ⟨y, h5, h6⟩ := h4 _ _ (hrows i j l u hi hj)
          rw [Nat.zero_add, cell_of_row w _ _ _ _ _ h3, h5]
          simp [Array.getD_eq_getD_getElem?, h5]
        · intro i j l u hi hj
          obtain ⟨y, h5, h6⟩ := h4 _ _ (hrows i j l u hi hj)
          cases h6 with
          | d _ _ h7 => simpa [Array.getD_eq_getD_getElem?, h5] using h7.mono Cells.rfl hq
      | ownNil =>
        have : rows = [] := by simpa using hlen
        subst this
        exact .sl sz bt [] none 0 0 0 (fun _ _ => undef) (Nat.le_refl 0) (fun h => absurd rfl h) (by simp) (by simp) (by simp)
    | agg l' l hl hh ih =>
      intro y hy
      cases hy with
      | agg _ cs hlen h2 =>
        refine .agg _ cs (by omega) fun j u z hu hz => ?_
        have hj : j < l.length := by rw [← hl]; exact (List.getElem?_eq_some_iff.1 hu).1
        exact ih j u l[j] hu (List.getElem?_eq_getElem hj) (h2 j _ z (List.getElem?_eq_getElem hj) hz)
    | fn f l' l hl hh ih =>
      intro y hy
      cases hy with
      | fn _ _ cs hlen h2 =>
        refine .fn _ _ cs (by omega) fun j u z hu hz => ?_
        have hj : j < l.length := by rw [← hl]; exact (List.getElem?_eq_some_iff.1 hu).1
        exact ih j u l[j] hu (List.getElem?_eq_getElem hj) (h2 j _ z (List.getElem?_eq_getElem hj) hz)
  refine ⟨by rw [hn]; exact h.size, h.defers, ?_, ?_, ?_, ?_, ?_, ?_, h.low, h.below⟩
  · intro i v' hv
    obtain ⟨v, h1, h2⟩ := hT i v' hv
    obtain ⟨x, h3, h4⟩ := h.tmp i v h1
    exact ⟨x, h3, hm h2 h4⟩
  · intro r row' hr hrn
    rcases hH r row' hr with ⟨_, h1⟩ | ⟨h1, _⟩
    · exact h1
    · rw [hrn] at h1; cases h1
  · intro r row' hr hrn
    rcases hH r row' hr with ⟨h1, _⟩ | ⟨_, row, h1, h2, h3, h4, h5⟩
    · rw [hrn] at h1; cases h1
    · obtain ⟨arr, h6, h7, h8⟩ := h.obj (ρ r) row h1 h2
      refine ⟨arr, by rw [h3]; exact h6, by rw [h4]; exact h7, fun j v' hv => ?_⟩
      obtain ⟨v, h9, h10⟩ := h5 j v' hv
      obtain ⟨x, h11, h12⟩ := h8 j v h9
      exact ⟨x, h11, hm h10 h12⟩
  · intro j v' x h1 h2
    obtain ⟨v, h3, h4⟩ := hK j v' h1
    exact hm h4 (h.keep j v x h3 h2)
  · intro r r' row1 row2 h1 n1 h2 n2 h3
    obtain ⟨r1, k1, m1⟩ := hlive r row1 h1 n1
    obtain ⟨r2, k2, m2⟩ := hlive r' row2 h2 n2
    exact hinj r r' _ _ h1 n1 h2 n2 (h.inj _ _ _ _ k1 m1 k2 m2 h3)
  · intro r row' h1 n1
    obtain ⟨r1, k1, m1⟩ := hlive r row' h1 n1
    exact h.base (ρ r) _ k1 m1
end

/-- A row of elements, each with plain cells ahead and a slice of its own behind. -/
structure Fam (β : Type) where
  ty : TypeId
  sz : Nat
  bt : Nat
  pre : β → List D
  it : β → List (List D)

section
variable {β : Type} (F : Fam β)
def Fam.row (x : β) : Row := ⟨F.ty, (F.it x).flatten.map V.d, (F.it x).isEmpty, F.sz⟩
def Fam.ownV (k : Nat) (x : β) : V := .own k F.sz (F.it x).length (F.it x).isEmpty
def Fam.cells : Nat → List β → List V
  | _, [] => []
  | k, x :: l => (F.pre x).map V.d ++ F.ownV k x :: Fam.cells (k + 1) l
def Fam.objs : Nat → List β → List (Nat × Row)
  | _, [] => []
  | k, x :: l => (k, F.row x) :: Fam.objs (k + 1) l
def Fam.data (x : β) : List D := F.pre x ++ [.sl F.sz F.bt (F.it x)]
variable {F}

theorem Fam.objs_get : ∀ (l : List β) (k p : Nat), fnd (F.objs k l) (k + p) = (l[p]?).map F.row
  | [], k, p => by simp [Fam.objs, fnd]
  | x :: l, k, 0 => by simp [Fam.objs, fnd]
  | x :: l, k, p + 1 => by
    have := Fam.objs_get l (k + 1) p
    simp only [Fam.objs, fnd]
    rw [if_neg (by simp), show k + (p + 1) = k + 1 + p by omega, this]
    simp
theorem Fam.objs_low : ∀ (l : List β) (k r : Nat), r < k → fnd (F.objs k l) r = none
  | [], k, r, h => by simp [Fam.objs, fnd]
  | x :: l, k, r, h => by
    simp only [Fam.objs, fnd]
    rw [if_neg (by simp; omega)]
    exact Fam.objs_low l (k + 1) r (by omega)
theorem Fam.objs_inv {l : List β} {k r : Nat} {row : Row} (h : fnd (F.objs k l) r = some row) : ∃ p x, r = k + p ∧ l[p]? = some x ∧ row = F.row x := by
  have hr : k ≤ r := by
    by_cases hh : r < k
    · rw [Fam.objs_low l k r hh] at h; cases h
    · omega
  obtain ⟨p, rfl⟩ : ∃ p, r = k + p := ⟨r - k, by omega⟩
  rw [Fam.objs_get] at h
  cases hx : l[p]? with
  | none => rw [hx] at h; cases h
  | some x => rw [hx] at h; simp at h; exact ⟨p, x, rfl, hx, h.symm⟩
theorem hasL_dmap (r : Nat) (l : List D) : V.hasL r (l.map V.d) = false := by simp [V.hasL_false, V.has]
theorem Fam.cells_hasL : ∀ (l : List β) (k r : Nat), r < k → V.hasL r (F.cells k l) = false
  | [], k, r, h => rfl
  | x :: l, k, r, h => by
    have hkr : (k == r) = false := by simp; omega
    simp only [Fam.cells, hasL_append, hasL_dmap, V.hasL, Fam.ownV, V.has, hkr, Bool.false_or]
    exact Fam.cells_hasL l (k + 1) r (by omega)
theorem Fam.row_hasL (x : β) (r : Nat) : V.hasL r (F.row x).cells = false := hasL_dmap _ _
theorem Fam.objs_clean : ∀ (l : List β) (k r : Nat), r < k → (F.objs k l).all (fun x => x.1 != r && !V.hasL r x.2.cells) = true
  | [], k, r, h => rfl
  | x :: l, k, r, h => by
    simp only [Fam.objs, List.all_cons, Fam.row_hasL, Bool.not_false, Bool.and_true]
    rw [Fam.objs_clean l (k + 1) r (by omega)]
    simp
    omega
theorem Fam.objs_filter : ∀ (l : List β) (k r : Nat), r < k → (F.objs k l).filter (fun x => x.1 != r) = F.objs k l
  | [], k, r, h => rfl
  | x :: l, k, r, h => by
    simp only [Fam.objs, List.filter_cons]
    rw [if_pos (by simp; omega), Fam.objs_filter l (k + 1) r (by omega)]
theorem Fam.objs_forget : ∀ (l : List β) (k r : Nat), (F.objs k l).map (fun x => (x.1, ({ x.2 with cells := if V.hasL r x.2.cells then x.2.cells.map (junkIf r) else x.2.cells } : Row))) = F.objs k l
  | [], k, r => rfl
  | x :: l, k, r => by
    simp only [Fam.objs, List.map_cons, Fam.row_hasL, Bool.false_eq_true, if_false]
    rw [Fam.objs_forget l (k + 1) r]
theorem Fam.cells_len {m : Nat} (hm : ∀ x, (F.pre x).length = m) : ∀ (l : List β) (k : Nat), (F.cells k l).length = l.length * (m + 1)
  | [], k => by simp [Fam.cells]
  | x :: l, k => by
    simp only [Fam.cells, List.length_append, List.length_map, List.length_cons, hm, Fam.cells_len hm l (k + 1)]
    rw [Nat.succ_mul]; omega
theorem Fam.cells_own {m : Nat} (hm : ∀ x, (F.pre x).length = m) : ∀ (l : List β) (k p : Nat) (x : β), l[p]? = some x → (F.cells k l)[p * (m + 1) + m]? = some (F.ownV (k + p) x)
  | [], k, p, x, h => by simp at h
  | y :: l, k, 0, x, h => by
    simp at h
    subst h
    simp only [Fam.cells, Nat.zero_mul, Nat.zero_add, Nat.add_zero]
    rw [List.getElem?_append_right (by simp [hm])]
    simp [hm]
  | y :: l, k, p + 1, x, h => by
    have := Fam.cells_own hm l (k + 1) p x (by simpa using h)
    simp only [Fam.cells]
    rw [List.getElem?_append_right (by simp [hm])]
    simp only [List.length_map, hm]
    rw [show (p + 1) * (m + 1) + m - m = (p * (m + 1) + m) + 1 by rw [Nat.succ_mul]; omega, List.getElem?_cons_succ, this, show k + 1 + p = k + (p + 1) by omega]
theorem Fam.cells_app : ∀ (l : List β) (k : Nat) (x : β), F.cells k (l ++ [x]) = F.cells k l ++ ((F.pre x).map V.d ++ [F.ownV (k + l.length) x])
  | [], k, x => by simp [Fam.cells]
  | y :: l, k, x => by
    simp only [List.cons_append, Fam.cells, Fam.cells_app l (k + 1) x, List.length_cons, show k + 1 + l.length = k + (l.length + 1) by omega]
    simp
end
end Go.Proofs.Ythlcginebeapdaa
namespace Go.Proofs.Ythlcginebeapdaa
open Go.RowKit
set_option linter.unusedSimpArgs false
set_option linter.unusedVariables false

mutual
def V.low (b : Nat) : V → Bool
  | .d _ => true
  | .ad _ => true
  | .ref k _ => decide (k < b)
  | .own k _ _ _ => decide (k < b)
  | .que k _ _ _ => decide (k < b)
  | .agg l => V.lowL b l
  | .tup l => V.lowL b l
  | .fn _ l => V.lowL b l
  | .mp k _ _ => decide (k < b)
  | .mq k _ _ => decide (k < b)
  | .ifc _ v => V.low b v
  | .mp2 _ k k' _ _ _ => decide (k < b) && decide (k' < b)
  | .it k _ _ _ => decide (k < b)
  | .mit k k' _ _ _ => decide (k < b) && decide (k' < b)
  | .mm k _ _ => decide (k < b)
  | .junk => true
def V.lowL (b : Nat) : List V → Bool
  | [] => true
  | v :: l => V.low b v && V.lowL b l
end
mutual
theorem V.low_has {b r : Nat} (hr : b ≤ r) : ∀ (v : V), v.low b = true → v.has r = false
  | .d _, _ => rfl
  | .ad _, _ => rfl
  | .ref k _, h => by simp [V.low] at h; simp [V.has]; omega
  | .own k _ _ _, h => by simp [V.low] at h; simp [V.has]; omega
  | .que k _ _ _, h => by simp [V.low] at h; simp [V.has]; omega
  | .agg l, h => V.lowL_has hr l (by simpa [V.low] using h)
  | .tup l, h => V.lowL_has hr l (by simpa [V.low] using h)
  | .fn _ l, h => V.lowL_has hr l (by simpa [V.low] using h)
  | .mp k _ _, h => by simp [V.low] at h; simp [V.has]; omega
  | .mq k _ _, h => by simp [V.low] at h; simp [V.has]; omega
  | .ifc _ v, h => by simpa [V.has] using V.low_has hr v (by simpa [V.low] using h)
  | .mp2 _ k k' _ _ _, h => by simp [V.low] at h; simp [V.has]; omega
  | .it k _ _ _, h => by simp [V.low] at h; simp [V.has]; omega
  | .mit k k' _ _ _, h => by simp [V.low] at h; simp [V.has]; omega
  | .mm k _ _, h => by simp [V.low] at h; simp [V.has]; omega
  | .junk, _ => rfl
theorem V.lowL_has {b r : Nat} (hr : b ≤ r) : ∀ (l : List V), V.lowL b l = true → V.hasL r l = false
  | [], _ => rfl
  | v :: l, h => by
    simp only [V.lowL, Bool.and_eq_true] at h
    simp only [V.hasL, V.low_has hr v h.1, V.lowL_has hr l h.2, Bool.or_false]
end
def junkHi (b : Nat) (v : V) : V := if v.low b then v else .junk
section
variable {β : Type} {F : Fam β} {c : Cx} {s : S} {o : Oper} {Q : Exit → S → Prop}

theorem fnd_app {α : Type} : ∀ (l l' : List (Nat × α)) (i : Nat), fnd (l ++ l') i = match fnd l i with | some v => some v | none => fnd l' i
  | [], l', i => by simp [fnd]
  | (k, v) :: l, l', i => by
    simp only [List.cons_append, fnd]
    split
    · rfl
    · exact fnd_app l l' i
theorem fnd_low {α : Type} {b : Nat} {l : List (Nat × α)} (h : l.all (fun x => decide (x.1 < b)) = true) {i : Nat} (hi : b ≤ i) : fnd l i = none := by
  cases hh : fnd l i with
  | none => rfl
  | some v =>
    have := List.all_eq_true.1 h _ (fnd_mem hh)
    simp at this
    omega
/-- The slice of an element. -/
theorem rd_load_fam {t : TypeId} {d : TypeDesc} {x : Operand} {rb k p m base : Nat} {row : Row} {L : List β} {x0 : β} (hu : c.P.underlying t = some d) (hd : isAggD d = false) (ho : o.op = .load t x) (hx : s.ev x = some (.ref rb k)) (hr : fnd s.H rb = some row) (hn : row.nil = false) (hc : row.cells = F.cells base L) (hm : ∀ x, (F.pre x).length = m) (hk : k = p * (m + 1) + m) (hp : L[p]? = some x0) : RD c o s (F.ownV (base + p) x0) :=
  rd_load_ref hu hd ho hx hr hn (by rw [hc, hk]; exact Fam.cells_own hm L base p x0 hp)
end
end Go.Proofs.Ythlcginebeapdaa
namespace Go.Proofs.Ythlcginebeapdaa
open Go.RowKit
set_option linter.unusedSimpArgs false
set_option linter.unusedVariables false

section
variable {β : Type} {F : Fam β} {c : Cx} {s : S} {Q : Exit → S → Prop}

theorem Fam.data_get (F : Fam β) {m : Nat} (hm : ∀ x, (F.pre x).length = m) : ∀ (l : List β) (k j : Nat) (v' : V), (l.flatMap fun x => (F.data x).map V.d)[j]? = some v' → ∃ v, (F.cells k l)[j]? = some v ∧ (v' = v ∧ (∀ r, v.has r = false) ∨ ∃ p x, l[p]? = some x ∧ v' = .d (.sl F.sz F.bt (F.it x)) ∧ v = F.ownV (k + p) x)
  | [], k, j, v', h => by simp at h
  | x :: l, k, j, v', h => by
    rw [List.flatMap_cons] at h
    simp only [Fam.cells, Fam.data, List.map_append, List.append_assoc] at h ⊢
    by_cases hj : j < m
    · rw [List.getElem?_append_left (by simpa [hm] using hj)] at h ⊢
      refine ⟨v', h, .inl ⟨rfl, ?_⟩⟩
      rw [List.getElem?_map] at h
      cases hd : (F.pre x)[j]? with
      | none => rw [hd] at h; cases h
      | some d => rw [hd] at h; simp at h; subst h; intro r; rfl
    · rw [List.getElem?_append_right (by simp [hm]; omega)] at h ⊢
      simp only [List.length_map, hm] at h ⊢
      cases hjm : j - m with
      | zero =>
        rw [hjm] at h
        simp at h
        subst h
        exact ⟨_, rfl, .inr ⟨0, x, rfl, rfl, rfl⟩⟩
      | succ i =>
        rw [hjm] at h
        simp only [List.map_cons, List.map_nil, List.cons_append, List.nil_append, List.getElem?_cons_succ] at h
        obtain ⟨v, h1, h2⟩ := Fam.data_get F hm l (k + 1) i v' (by simpa [Fam.data] using h)
        refine ⟨v, by simpa using h1, ?_⟩
        rcases h2 with h2 | ⟨p, y, h3, h4, h5⟩
        · exact .inl h2
        · exact .inr ⟨p + 1, y, by simpa using h3, h4, by rw [h5, show k + 1 + p = k + (p + 1) by omega]⟩
theorem flat_get {rows : List (List D)} {sz : Nat} (hr : ∀ l ∈ rows, l.length = sz) : ∀ (i j : Nat) (l : List D) (u : D), rows[i]? = some l → l[j]? = some u → (rows.flatten.map V.d)[i * sz + j]? = some (.d u) := by
  induction rows with
  | nil => intro i j l u h; simp at h
  | cons y rows ih =>
    intro i j l u h1 h2
    have hy := hr y (by simp)
    rw [List.flatten_cons, List.map_append]
    cases i with
    | zero =>
      simp at h1
      subst h1
      have hj := (List.getElem?_eq_some_iff.1 h2).1
      rw [Nat.zero_mul, Nat.zero_add, List.getElem?_append_left (by simpa using hj)]
      simp [h2]
    | succ i =>
      rw [List.getElem?_append_right (by simp [hy]; rw [Nat.succ_mul]; omega)]
      simp only [List.length_map, hy]
      rw [show (i + 1) * sz + j - sz = i * sz + j by rw [Nat.succ_mul]; omega]
      exact ih (fun l hl => hr l (by simp [hl])) i j l u (by simpa using h1) h2

/-- The row and all its slices become plain data. -/
theorem AW.famFreeze {code : Code} (lits : List (Nat × Row)) (rb : Nat) {m base : Nat} {L : List β} {row : Row} (hH : s.H = lits ++ F.objs base L) (hr : fnd lits rb = some row) (hn : row.nil = false) (hc : row.cells = F.cells base L) (hm : ∀ x, (F.pre x).length = m) (hrow : ∀ x, ∀ l ∈ F.it x, l.length = F.sz) (hbt : ∀ x ∈ L, (F.it x).length * F.bt ≤ 140737488355328) (hlow : lits.all (fun x => decide (x.1 < base)) = true)
    (hlo : ∀ x ∈ lits, x.1 ≠ rb → ∀ r, base ≤ r → V.hasL r x.2.cells = false) (hT : s.T.all (fun x => x.2.low base) = true) (hK : V.lowL base s.K = true)
    (h : AW c code Q ⟨s.n, s.T, (rb, { row with cells := L.flatMap fun x => (F.data x).map V.d }) :: lits, s.K⟩) : AW c code Q s := fun g a w hs => h _ a w (hs.conv id rfl
  (fun i v hv => ⟨v, hv, .same v fun _ _ => rfl⟩)
  (fun r row' hr' => by
    have hr' : fnd ((rb, { row with cells := L.flatMap fun x => (F.data x).map V.d }) :: lits) r = some row' := hr'
    rw [fnd] at hr'
    by_cases e : rb = r
    · subst e
      rw [if_pos (by simp)] at hr'
      have hr' := Option.some.inj hr'
      subst hr'
      refine .inr ⟨hn, row, by show fnd s.H rb = _; rw [hH, fnd_app, hr], hn, rfl, rfl, fun j v' hv => ?_⟩
      obtain ⟨v, h1, h2⟩ := Fam.data_get F hm L base j v' hv
      refine ⟨v, by rw [hc]; exact h1, ?_⟩
      rcases h2 with ⟨rfl, h2⟩ | ⟨p, x, h3, rfl, rfl⟩
      · exact .same _ fun _ _ => rfl
      · have hfr : fnd s.H (base + p) = some (F.row x) := by rw [hH, fnd_app, fnd_low hlow (by omega), Fam.objs_get, h3]; rfl
        refine .frz (base + p) F.sz _ F.bt _ _ _ hfr rfl rfl (hbt x (List.mem_of_getElem? h3)) (flat_get (hrow x)) ?_
        intro k row2 hk hk2 e
        have hk : fnd ((rb, { row with cells := L.flatMap fun x => (F.data x).map V.d }) :: lits) k = some row2 := hk
        simp only [id] at e
        subst e
        have hrbl : rb < base := by have := List.all_eq_true.1 hlow _ (fnd_mem hr); simpa using this
        rw [fnd, if_neg (by simp; omega), fnd_low hlow (by omega)] at hk
        cases hk
    · rw [if_neg (by simpa using e)] at hr'
      have h1 : fnd s.H r = some row' := by rw [hH, fnd_app, hr']
      cases hnn : row'.nil with
      | true => exact .inl ⟨rfl, hs.nul r row' h1 hnn⟩
      | false => exact .inr ⟨rfl, row', h1, hnn, rfl, rfl, fun j v hv => ⟨v, hv, .same v fun _ _ => rfl⟩⟩)
  (fun j v hv => ⟨v, hv, .same v fun _ _ => rfl⟩)
  (fun _ _ _ _ _ _ _ _ e => e))

/-- The row has got an element more, whose slice z was the call's own: it goes to the others. -/
theorem AW.famPush {code : Code} (lits : List (Nat × Row)) (rb z : Nat) (x : β) {base : Nat} {L : List β} {row : Row} (hH : s.H = lits ++ F.objs base L) (hr : fnd lits rb = some row) (hn : row.nil = false) (hz : fnd lits z = some (F.row x)) (hc : row.cells = F.cells base L ++ ((F.pre x).map V.d ++ [.own z F.sz (F.it x).length (F.it x).isEmpty])) (hzr : z ≠ rb) (hlow : lits.all (fun x => decide (x.1 < base)) = true)
    (hlo : ∀ x ∈ lits, x.1 ≠ rb → V.hasL z x.2.cells = false) (hT : s.T.all (fun x => !x.2.has z) = true) (hK : V.hasL z s.K = false) (hlo2 : ∀ x ∈ lits, x.1 ≠ rb → ∀ r, base ≤ r → V.hasL r x.2.cells = false) (hT2 : s.T.all (fun x => x.2.low base) = true) (hK2 : V.lowL base s.K = true)
    (h : AW c code Q ⟨s.n, s.T, (rb, { row with cells := F.cells base (L ++ [x]) }) :: lits.filter (fun x => x.1 != z) ++ F.objs base (L ++ [x]), s.K⟩) : AW c code Q s := fun g a w hs => by
  have hzb : z < base := by have := List.all_eq_true.1 hlow _ (fnd_mem hz); simpa using this
  have hrbb : rb < base := by have := List.all_eq_true.1 hlow _ (fnd_mem hr); simpa using this
  have hρ : ∀ v : V, v.has (base + L.length) = false → ∀ r, v.has r = true → (if r = base + L.length then z else r) = r := by
    intro v hv r hr
    rw [if_neg]
    rintro rfl
    rw [hv] at hr; cases hr
  have hfo : ∀ r row', fnd ((rb, { row with cells := F.cells base (L ++ [x]) }) :: (lits.filter (fun x => x.1 != z) ++ F.objs base (L ++ [x]))) r = some row' →
      r = rb ∧ row' = { row with cells := F.cells base (L ++ [x]) } ∨ (r ≠ rb ∧ r ≠ z ∧ r < base ∧ fnd lits r = some row') ∨ ∃ p y, r = base + p ∧ L[p]? = some y ∧ row' = F.row y ∨ r = base + L.length ∧ row' = F.row x := by
    intro r row' hr'
    rw [fnd] at hr'
    by_cases e : rb = r
    · subst e
      rw [if_pos (by simp)] at hr'
      exact .inl ⟨rfl, (Option.some.inj hr').symm⟩
    · rw [if_neg (by simpa using e), fnd_app] at hr'
      have e := Ne.symm e
      cases hl : fnd (lits.filter (fun x => x.1 != z)) r with
      | some row2 =>
        rw [hl] at hr'
        have hr' := Option.some.inj hr'
        subst hr'
        by_cases ez : r = z
        · subst ez; rw [fnd_filter_self] at hl; cases hl
        · rw [fnd_filter _ _ _ ez] at hl
          refine .inr (.inl ⟨e, ez, ?_, hl⟩)
          have := List.all_eq_true.1 hlow _ (fnd_mem hl)
          simpa using this
      | none =>
        rw [hl] at hr'
        obtain ⟨p, y, rfl, hy, rfl⟩ := Fam.objs_inv hr'
        rw [List.getElem?_append] at hy
        split at hy
        · exact .inr (.inr ⟨p, y, .inl ⟨rfl, hy, rfl⟩⟩)
        · rename_i hpl
          cases hpp : p - L.length with
          | zero =>
            rw [hpp] at hy
            simp at hy
            subst hy
            exact .inr (.inr ⟨p, x, .inr ⟨by omega, rfl⟩⟩)
          | succ i => rw [hpp] at hy; simp at hy
  have hlitfnd : ∀ r row', fnd lits r = some row' → fnd s.H r = some row' := fun r row' hr' => by rw [hH, fnd_app, hr']
  have hobj : ∀ p y, L[p]? = some y → fnd s.H (base + p) = some (F.row y) := fun p y hy => by rw [hH, fnd_app, fnd_low hlow (by omega), Fam.objs_get, hy]; rfl
  refine h _ a w (hs.conv (fun k => if k = base + L.length then z else k) rfl ?_ ?_ ?_ ?_)
  · intro i v hv
    refine ⟨v, hv, .same v (hρ v ?_)⟩
    have := List.all_eq_true.1 hT2 _ (fnd_mem hv)
    exact V.low_has (by omega) v this
  · intro r row' hr'
    rcases hfo r row' hr' with ⟨rfl, rfl⟩ | ⟨e1, e2, e3, h1⟩ | ⟨p, y, ⟨rfl, hy, rfl⟩ | ⟨rfl, rfl⟩⟩
    · refine .inr ⟨hn, row, ?_, hn, rfl, rfl, fun j v' hv => ?_⟩
      · rw [if_neg (by omega)]; exact hlitfnd _ _ hr
      · simp only at hv
        rw [Fam.cells_app] at hv
        rw [hc]
        have hz' : (F.cells base L ++ ((F.pre x).map V.d ++ [F.ownV (base + L.length) x]))[j]? = some v' := hv
        by_cases hj : j < (F.cells base L).length
        · rw [List.getElem?_append_left hj] at hz' ⊢
          refine ⟨v', hz', .same v' (hρ v' ?_)⟩
          cases hh : v'.has (base + L.length) with
          | false => rfl
          | true =>
            exfalso
            -- no element stands there
            have : ∀ (l : List β) (k : Nat) (v : V), v ∈ F.cells k l → v.has (k + l.length) = true → False := by
              intro l
              induction l with
              | nil => intro k v hv; simp [Fam.cells] at hv
              | cons y l ih =>
                intro k v hv hk
                simp only [Fam.cells, List.mem_append, List.mem_map, List.mem_cons] at hv
                rcases hv with ⟨d, _, rfl⟩ | rfl | hv
                · simp [V.has] at hk
                · simp [Fam.ownV, V.has] at hk
                · exact ih (k + 1) v hv (by rw [show k + 1 + l.length = k + (y :: l).length by simp; omega]; exact hk)
            exact this L base v' (List.mem_of_getElem? hz') hh
        · rw [List.getElem?_append_right (by omega)] at hz' ⊢
          by_cases hj2 : j - (F.cells base L).length < (F.pre x).length
          · rw [List.getElem?_append_left (by simpa using hj2)] at hz' ⊢
            refine ⟨v', hz', .same v' (hρ v' ?_)⟩
            rw [List.getElem?_map] at hz'
            cases hd : (F.pre x)[j - (F.cells base L).length]? with
            | none => rw [hd] at hz'; cases hz'
            | some d => rw [hd] at hz'; simp at hz'; subst hz'; rfl
          · rw [List.getElem?_append_right (by simp; omega)] at hz' ⊢
            generalize j - (F.cells base L).length - ((F.pre x).map V.d).length = i at hz' ⊢
            cases i with
            | zero =>
              simp at hz'
              subst hz'
              refine ⟨_, rfl, ?_⟩
              have := Cv.own (s := s) (s' := ⟨s.n, s.T, (r, { row with cells := F.cells base (L ++ [x]) }) :: lits.filter (fun x => x.1 != z) ++ F.objs base (L ++ [x]), s.K⟩) (ρ := fun k => if k = base + L.length then z else k) (base + L.length) F.sz (F.it x).length (F.it x).isEmpty
              simpa [Fam.ownV] using this
            | succ i => simp at hz'
    · have h2 := hlitfnd _ _ h1
      cases hnn : row'.nil with
      | true => exact .inl ⟨rfl, hs.nul r row' h2 hnn⟩
      | false =>
        refine .inr ⟨rfl, row', by rw [if_neg (by omega)]; exact h2, hnn, rfl, rfl, fun j v hv => ⟨v, hv, .same v (hρ v ?_)⟩⟩
        exact V.hasL_false.1 (hlo2 _ (fnd_mem h1) e1 _ (by omega)) v (List.mem_of_getElem? hv)
    · have hpl := (List.getElem?_eq_some_iff.1 hy).1
      have h2 := hobj p y hy
      cases hnn : (F.row y).nil with
      | true => exact .inl ⟨rfl, hs.nul _ _ h2 hnn⟩
      | false =>
        refine .inr ⟨rfl, _, by rw [if_neg (by omega)]; exact h2, hnn, rfl, rfl, fun j v hv => ⟨v, hv, .same v (hρ v ?_)⟩⟩
        exact V.hasL_false.1 (F.row_hasL y _) v (List.mem_of_getElem? hv)
    · have h2 := hlitfnd _ _ hz
      cases hnn : (F.row x).nil with
      | true => exact .inl ⟨rfl, hs.nul _ _ h2 hnn⟩
      | false =>
        refine .inr ⟨rfl, _, by rw [if_pos rfl]; exact h2, hnn, rfl, rfl, fun j v hv => ⟨v, hv, .same v (hρ v ?_)⟩⟩
        exact V.hasL_false.1 (F.row_hasL x _) v (List.mem_of_getElem? hv)
  · intro j v hv
    exact ⟨v, hv, .same v (hρ v (V.low_has (b := base) (by omega) v (by
      have : ∀ (l : List V), V.lowL base l = true → ∀ u ∈ l, u.low base = true := by
        intro l
        induction l with
        | nil => intro _ u hu; cases hu
        | cons y l ih =>
          intro hl u hu
          simp only [V.lowL, Bool.and_eq_true] at hl
          rcases List.mem_cons.1 hu with rfl | hu
          · exact hl.1
          · exact ih hl.2 u hu
      exact this _ hK2 v (List.mem_of_getElem? hv))))⟩
  · intro r r' row1 row2 h1 n1 h2 n2 e
    rcases hfo r row1 h1 with ⟨rfl, _⟩ | ⟨a1, a2, a3, _⟩ | ⟨p, y, ⟨rfl, hy, _⟩ | ⟨rfl, _⟩⟩ <;> rcases hfo r' row2 h2 with ⟨rfl, _⟩ | ⟨b1, b2, b3, _⟩ | ⟨p', y', ⟨rfl, hy', _⟩ | ⟨rfl, _⟩⟩ <;>
      (try have hpl := (List.getElem?_eq_some_iff.1 hy).1) <;> (try have hpl' := (List.getElem?_eq_some_iff.1 hy').1) <;> (try dsimp only at e) <;> (try split at e) <;> (try split at e) <;> omega
end

theorem LH.self {n : Nat} {T : List (Nat × V)} {H : List (Nat × Row)} {K : List V} (hk : ∀ r row, fnd H r = some row → True) : ∀ {l : List (Nat × Row)}, (∀ i row, (i, row) ∈ l → fnd H i = some row) → LH ⟨n, T, H, K⟩ l
  | [], _ => trivial
  | (i, row) :: l, h => ⟨h i row (by simp), LH.self hk fun j r hj => h j r (by simp [hj])⟩
theorem Fam.objs_mem {β : Type} {F : Fam β} : ∀ (l : List β) (k i : Nat) (row : Row), (i, row) ∈ F.objs k l → k ≤ i ∧ fnd (F.objs k l) i = some row
  | [], k, i, row, h => by simp [Fam.objs] at h
  | x :: l, k, i, row, h => by
    simp only [Fam.objs, List.mem_cons, Prod.mk.injEq] at h
    rcases h with ⟨rfl, rfl⟩ | h
    · exact ⟨Nat.le_refl _, by simp [Fam.objs, fnd]⟩
    · obtain ⟨h1, h2⟩ := Fam.objs_mem l (k + 1) i row h
      refine ⟨by omega, ?_⟩
      rw [Fam.objs, fnd, if_neg (by simp; omega), h2]
/-- A state's growing slices are among another's. -/
theorem LH.fam {β : Type} {F : Fam β} {n base : Nat} {L : List β} {T : List (Nat × V)} {K : List V} : LH ⟨n, T, F.objs base L, K⟩ (F.objs base L) := LH.self (fun _ _ _ => trivial) fun i row h => (Fam.objs_mem L base i row h).2
theorem LH.skip {β : Type} {F : Fam β} {n base r : Nat} {L : List β} {row : Row} {T : List (Nat × V)} {H : List (Nat × Row)} {K : List V} (hr : r < base) (h : LH ⟨n, T, H, K⟩ (F.objs base L)) : LH ⟨n, T, (r, row) :: H, K⟩ (F.objs base L) := by
  refine LH.self (fun _ _ _ => trivial) fun i row' hm => ?_
  have h1 := (Fam.objs_mem L base i row' hm).1
  rw [fnd, if_neg (by simp; omega)]
  have : ∀ (l : List (Nat × Row)), LH ⟨n, T, H, K⟩ l → ∀ i row, (i, row) ∈ l → fnd H i = some row := by
    intro l
    induction l with
    | nil => intro _ i row h; cases h
    | cons x l ih =>
      intro hl i row hm
      rcases List.mem_cons.1 hm with e | hm
      · subst e; exact hl.1
      · exact ih hl.2 i row hm
  exact this _ h i row' hm
theorem low_ownV {β : Type} (F : Fam β) (b p : Nat) (x : β) : (F.ownV (b + p) x).low b = false := by simp [Fam.ownV, V.low]
theorem has_ownV {β : Type} (F : Fam β) (k r : Nat) (x : β) : (F.ownV k x).has r = (k == r) := rfl
theorem objs_clean_low {β : Type} (F : Fam β) {l : List β} {k r : Nat} (h : r < k) : (F.objs k l).all (fun x => x.1 != r && !V.hasL r x.2.cells) = true := Fam.objs_clean l k r h
theorem objs_filter_low {β : Type} (F : Fam β) {l : List β} {k r : Nat} (h : r < k) : (F.objs k l).filter (fun x => x.1 != r) = F.objs k l := Fam.objs_filter l k r h
theorem cells_hasL_low {β : Type} (F : Fam β) {l : List β} {k r : Nat} (h : r < k) : V.hasL r (F.cells k l) = false := Fam.cells_hasL l k r h
theorem nb1 {a b p : Nat} (h : a < b) : (a = b + p) = False := by simp; omega
theorem nb2 {a b p : Nat} (h : a < b) : (b + p = a) = False := by simp; omega
theorem nb3 {a b p : Nat} (h : a < b) : (a == b + p) = false := by simp; omega
theorem nb4 {a b p : Nat} (h : a < b) : (b + p == a) = false := by simp; omega
theorem hasL_frep {r n : Nat} {zs : List V} (h : V.hasL r zs = false) : V.hasL r (List.replicate n zs).flatten = false := by
  induction n with
  | zero => rfl
  | succ n ih => rw [List.replicate_succ, List.flatten_cons, hasL_append, h, ih]; rfl
end Go.Proofs.Ythlcginebeapdaa
namespace Go.Proofs.Ythlcginebeapdaa
open Go.RowKit
set_option linter.unusedSimpArgs false
set_option linter.unusedVariables false

/-- Blocks are as they were but those of e. -/
def BX (e : Nat → Prop) (N : Nat) (W w : World) : Prop := N ≤ w.heap.size ∧ ∀ k, k < N → ¬ e k → w.heap[k]? = W.heap[k]?
structure Ex (c : Cx) (g : Nat → Nat × Nat) (s : S) (r : Nat) (e : Nat → Prop) (w : World) : Prop where
  obj : ∀ k row, k ≠ r → fnd s.H k = some row → row.nil = false → ¬ e (g k).1
  quiet : ∀ k, qt c s.H g k → k < w.heap.size → ¬ e k
  own : ∀ row, fnd s.H r = some row → row.nil = false → e (g r).1

section
variable {c : Cx} {s : S} {o : Oper} {Q : Exit → S → Prop} {g : Nat → Nat × Nat} {a : Act} {w : World} {L : List Oper} {need : Nat → Bool} {l : List (Nat × Bool)} {i r : Nat} {e : Nat → Prop}

theorem BX.cell {N : Nat} {W w : World} {b k : Nat} {v : Value} (h : BX e N W w) (hb : b < N) (he : ¬ e b) (hv : W.cell? ⟨b, k, none⟩ = some v) : w.cell? ⟨b, k, none⟩ = some v := (World.cell?_of_block (w := W) (a := ⟨b, k, none⟩) (h.2 b hb he)).trans hv

/-- A read that does not look at object r. -/
def RX (c : Cx) (o : Oper) (s : S) (r : Nat) (v : V) : Prop := ∀ e g a w, Sim c g s a w → Ex c g s r e w → ∃ x, VRep w (qt c s.H g) g v x ∧ ∀ w', BX e w.heap.size w w' → (execOp a.eval o).run c.P w' = .ok (.value x) w'
theorem RP.rx {v : V} (h : RP c o s v) : RX c o s r v := fun e g a w hs _ => by
  obtain ⟨x, h1, h2⟩ := h g a w hs
  exact ⟨x, h1, fun w' _ => h2 w'⟩
/-- First come the reads that do not look at r. -/
def AE1 (c : Cx) (ops : Array Oper) (Q : Exit → S → Prop) (need : Nat → Bool) (r : Nat) (l : List (Nat × Bool)) (s : S) : Prop := ∀ e g a w, Sim c g s a w → Ex c g s r e w → (∀ k, e k → k < w.heap.size) → ASeq c.P ops (QQ c Q) (BX e w.heap.size w) need l a w
/-- Then new memory, and r grows. -/
def AE2 (c : Cx) (ops : Array Oper) (Q : Exit → S → Prop) (need : Nat → Bool) (r : Nat) (l : List (Nat × Bool)) (s : S) : Prop := ∀ W e g a w, Sim c g s a w → Ex c g s r e w → BX e W.heap.size W w → (∀ k, e k → k < W.heap.size) → ASeq c.P ops (QQ c Q) (BX e W.heap.size W) need l a w

theorem Ex.put {d : Option Tmp} {v : V} (h : Ex c g s r e w) : Ex c g (s.put d v) r e w := by
  cases d with
  | none => exact h
  | some d => exact ⟨h.obj, h.quiet, h.own⟩
theorem BX.refl (w : World) : BX e w.heap.size w w := ⟨Nat.le_refl _, fun _ _ _ => rfl⟩
theorem AE1.rx {v : V} (hi : L[i]? = some o) (hg : o.guard = none) (hd : dok s o = true) (hp : noP Q) (h : RX c o s r v) (hN : AE1 c L.toArray Q need r l (s.put o.dst v)) : AE1 c L.toArray Q need r ((i, true) :: l) s := fun e g a w hs he hl => by
  obtain ⟨x, h1, h2⟩ := h e g a w hs he
  exact ⟨o, x, by simpa using hi, .inl ⟨by simp [Region.wanted, hg], h2⟩, BX.refl _, QQ_noP hp _ _, hN e g _ w (hs.put o.dst (dok_spec hd) h1) he.put hl⟩
theorem AE1.rp {v : V} (hi : L[i]? = some o) (hg : o.guard = none) (hd : dok s o = true) (hp : noP Q) (h : RP c o s v) (hN : AE1 c L.toArray Q need r l (s.put o.dst v)) : AE1 c L.toArray Q need r ((i, true) :: l) s := AE1.rx hi hg hd hp h.rx hN
theorem AE1.go (h : AE2 c L.toArray Q need r l s) : AE1 c L.toArray Q need r l s := fun e g a w hs he hl => h w e g a w hs he (BX.refl _) hl
theorem AE2.sm {r' : Nat} {row : Row} {v : V} (hi : L[i]? = some o) (hg : o.guard = none) (h : StepG c o s r' (fun s' => s' = s.newObj r' row o.dst v)) (hne : r' ≠ r) (hN : AE2 c L.toArray Q need r l (s.newObj r' row o.dst v)) : AE2 c L.toArray Q need r ((i, false) :: l) s := fun W e g a w hs he hb hl =>
  wpOp_of (by simpa using hi) hg (h g a w hs _ _ fun g' s' a' w' h1 h2 h3 h4 h5 => by
    subst h1
    have hsz := hb.1
    have hbx : BX e W.heap.size W w' := ⟨Nat.le_trans hb.1 h3.size, fun k hk hn => (h3.block k (by omega)).trans (hb.2 k hk hn)⟩
    refine ⟨fun _ => hbx, hN W e g' a' w' h2 (Ex.put (s := { s with H := (r', row) :: s.H }) ⟨fun k row' hk h6 h7 => ?_, fun k hk hkl => ?_, fun row' h6 h7 => ?_⟩) hbx hl⟩
    · simp only [fnd] at h6
      by_cases hkr : r' = k
      · subst hkr
        intro h8
        have := hl _ h8
        omega
      · rw [if_neg (by simpa using hkr)] at h6
        rw [h4 k (Ne.symm hkr)]
        exact he.obj k row' hk h6 h7
    · intro h8
      have h9 := hl k h8
      refine he.quiet k ⟨hk.1, fun r2 row2 h10 h11 h12 => ?_⟩ (by omega) h8
      by_cases hr2 : r2 = r'
      · subst hr2
        -- an old object of that name: it would lie in the new one's place
        have : fnd s.H r2 = none ∨ ∃ x, fnd s.H r2 = some x := by cases fnd s.H r2 <;> simp
        have hne2 : e (g r2).1 := by rw [h12]; exact h8
        exact he.obj r2 row2 hne h10 h11 hne2
      · refine hk.2 r2 row2 ?_ h11 (by rw [h4 r2 hr2]; exact h12)
        have e1 : (S.newObj s r' row o.dst v).H = (r', row) :: s.H := by cases o.dst <;> rfl
        simp only [fnd]
        rw [if_neg (by simpa using Ne.symm hr2)]
        exact h10
    · simp only [fnd] at h6
      rw [if_neg (by simpa using hne)] at h6
      rw [h4 r (Ne.symm hne)]
      exact he.own row' h6 h7)
theorem AE2.st {X : S} (hi : L[i]? = some o) (hg : o.guard = none) (h : StepX c o s r (fun s' => s' = X)) (hN : AD3 c L.toArray Q need l X) : AE2 c L.toArray Q need r ((i, false) :: l) s := fun W e g a w hs he hb hl =>
  wpOp_of (by simpa using hi) hg (h g a w hs _ _ fun g' s' a' w' h1 h2 h3 => by
    subst h1
    have hsz := hb.1
    refine ⟨fun _ => ⟨Nat.le_trans hb.1 h3.1, fun k hk hn => (h3.2 k (by omega) fun row h4 h5 h6 => ?_).trans (hb.2 k hk hn)⟩, hN _ g' a' w' h2⟩
    subst h6
    exact hn (he.own row h4 h5))
end
end Go.Proofs.Ythlcginebeapdaa
namespace Go.Proofs.Ythlcginebeapdaa
open Go.RowKit
set_option linter.unusedSimpArgs false
set_option linter.unusedVariables false

/-- The objects H, new since N, among blocks that are quiet as q says. -/
structure Objs (w : World) (q : Nat → Prop) (N : Nat) (g : Nat → Nat × Nat) (H : List (Nat × Row)) : Prop where
  nul : ∀ r row, fnd H r = some row → row.nil = true → row.cells = []
  obj : ∀ r row, fnd H r = some row → row.nil = false → ∃ arr : Array Value, w.heap[(g r).1]? = some (.cells arr row.ty (0, 0)) ∧ (row.sz ≠ 0 → arr.size = (g r).2 * row.sz) ∧ ∀ (j : Nat) (v : V), row.cells[j]? = some v → ∃ x, arr[j]? = some x ∧ VRep w (fun b => q b ∧ ∀ r row, fnd H r = some row → row.nil = false → (g r).1 ≠ b) g v x
  inj : ∀ r r' row row', fnd H r = some row → row.nil = false → fnd H r' = some row' → row'.nil = false → (g r).1 = (g r').1 → r = r'
  new : ∀ r row, fnd H r = some row → row.nil = false → N ≤ (g r).1
  closed : ∀ r row k, fnd H r = some row → V.hasL k row.cells = true → ∃ row', (k, row') ∈ H

def FnO (P : Program) (f : FuncId) (args : List V) (post : V → List (Nat × Row) → Prop) : Prop := ∀ (w : World) (out : Nat → Prop) (g : Nat → Nat × Nat) (xs : List Value), (∀ b, out b → b < w.heap.size) → VReps w (fun b => ¬ out b) g args xs →
  Calls P f xs.toArray w fun e w' => ∃ v x g' H, e = .returned x ∧ post v H ∧ (∀ k, v.has k = true → ∃ row', (k, row') ∈ H) ∧ Objs w' (fun b => ¬ out b) w.heap.size g' H ∧ VRep w' (fun b => ¬ out b ∧ ∀ r row, fnd H r = some row → row.nil = false → (g' r).1 ≠ b) g' v x ∧ Below w.heap.size w w'

def QFO (P : Program) (rs : List ResultVar) (post : V → List (Nat × Row) → Prop) : Exit → S → Prop
  | .normal, s => ∃ vs H, resL P s rs vs ∧ LH s H ∧ post (tupOf vs) H ∧ (∀ k, (tupOf vs).has k = true → ∃ row', (k, row') ∈ H) ∧ ∀ r row k, fnd H r = some row → V.hasL k row.cells = true → ∃ row', (k, row') ∈ H
  | .ret, s => ∃ vs H, resL P s rs vs ∧ LH s H ∧ post (tupOf vs) H ∧ (∀ k, (tupOf vs).has k = true → ∃ row', (k, row') ∈ H) ∧ ∀ r row k, fnd H r = some row → V.hasL k row.cells = true → ∃ row', (k, row') ∈ H
  | _, _ => False

theorem FnO.intro {P : Program} {f : FuncId} {fn : Func} {code : Code} {n : Nat} {rs : List ResultVar} {args : List V} {post : V → List (Nat × Row) → Prop} (hf : Is P f fn code n rs) (hp : ∀ v ∈ args, v.pure) (hn : args.length ≤ n)
    (h : ∀ w0 out, AW ⟨P, w0, out, [], []⟩ code (QFO P rs post) ⟨n, enum 0 args, [], []⟩) : FnO P f args post := by
  intro w out g xs hout hx
  refine calls_of_wp hf.func hf.body ?_
  have hs : Sim ⟨P, w, out, [], []⟩ g ⟨n, enum 0 args, [], []⟩ { tmps := xs.toArray ++ Array.replicate (fn.ntmps - xs.toArray.size) undef, defers := [] } w := by
    refine ⟨?_, rfl, ?_, by simp [fnd], by simp [fnd], by simp, by simp [fnd], by simp [fnd], hout, Below.refl _ _⟩
    · simp [hf.ntmps, ← hx.1]; omega
    · intro i v hv
      obtain ⟨_, h2⟩ := fnd_enum args 0 i v hv
      simp only [Nat.sub_zero] at h2
      have hi : i < xs.length := by rw [← hx.1]; exact (List.getElem?_eq_some_iff.1 h2).1
      refine ⟨xs[i], ?_, ?_⟩
      · rw [hf.ntmps]
        exact enter_get (List.getElem?_eq_getElem hi) (by rw [← hx.1]; exact hn)
      · refine (hx.2 i v _ h2 (List.getElem?_eq_getElem hi)).mono Cells.rfl (fun b hb _ => ⟨hb, by simp [fnd]⟩) (fun r _ => rfl)
  refine wp_mono (h w out g _ w hs) fun e a' w' hq => ?_
  obtain ⟨g', s', h1, h2⟩ := hq
  have fin : (∃ vs H, resL P s' rs vs ∧ LH s' H ∧ post (tupOf vs) H ∧ (∀ k, (tupOf vs).has k = true → ∃ row', (k, row') ∈ H) ∧ ∀ r row k, fnd H r = some row → V.hasL k row.cells = true → ∃ row', (k, row') ∈ H) →
      a'.defers = [] ∧ ∃ v, (results fn a'.tmps).run P w' = .ok v w' ∧ ∃ v_1 x g' H, Ending.returned v = .returned x ∧ post v_1 H ∧ (∀ k, v_1.has k = true → ∃ row', (k, row') ∈ H) ∧ Objs w' (fun b => ¬ out b) w.heap.size g' H ∧ VRep w' (fun b => ¬ out b ∧ ∀ r row, fnd H r = some row → row.nil = false → (g' r).1 ≠ b) g' v_1 x ∧ Below w.heap.size w w' := by
    rintro ⟨vs, H, k1, k2, k3, k4, k5⟩
    obtain ⟨x, k6, k7⟩ := run_results (c := ⟨P, w, out, [], []⟩) hf.results h2 k1
    have hq : ∀ b, qt ⟨P, w, out, [], []⟩ s'.H g' b → b < w'.heap.size → ¬ out b ∧ ∀ r row, fnd H r = some row → row.nil = false → (g' r).1 ≠ b := fun b hb _ => ⟨hb.1, fun r row hr hn => hb.2 r row (k2.get r row hr) hn⟩
    have hm : ∀ {v x}, VRep w' (qt ⟨P, w, out, [], []⟩ s'.H g') g' v x → VRep w' (fun b => ¬ out b ∧ ∀ r row, fnd H r = some row → row.nil = false → (g' r).1 ≠ b) g' v x := fun hv => hv.mono Cells.rfl hq (fun _ _ => rfl)
    refine ⟨h2.defers, x, k7, _, x, g', H, rfl, k3, k4, ⟨fun r row hr hn => h2.nul r row (k2.get r row hr) hn, fun r row hr hn => ?_, fun r r' row row' a1 a2 a3 a4 a5 => h2.inj r r' row row' (k2.get r row a1) a2 (k2.get r' row' a3) a4 a5, fun r row hr hn => h2.base r row (k2.get r row hr) hn, k5⟩, hm k6, h2.below⟩
    obtain ⟨arr, a1, a2, a3⟩ := h2.obj r row (k2.get r row hr) hn
    refine ⟨arr, a1, a2, fun j v hv => ?_⟩
    obtain ⟨y, a4, a5⟩ := a3 j v hv
    exact ⟨y, a4, hm a5⟩
  cases e with
  | normal => exact fin h1
  | ret => exact fin h1
  | _ => exact h1.elim

section
variable {c : Cx} {s : S} {o : Oper}

/-- A call of a function whose result comes with objects. -/
theorem sm_callo {fx : Operand} {xs : Array Operand} {ts : Array TypeId} {f : FuncId} {fn : Func} {code : Code} {n : Nat} {rs : List ResultVar} {args : List V} {post : V → List (Nat × Row) → Prop} (hfn : FnO c.P f args post) (hf : Is c.P f fn code n rs) (ho : o.op = .call { callee := .value fx, args := xs, argTypes := ts })
    (hfx : s.ev fx = some (.fn f [])) (hargs : xs.toList.map s.ev = args.map some) (hd : dok s o = true) (hfr : ∀ v H, post v H → H.all (fun x => s.clean x.1) = true) : StepM c o s (fun s' => ∃ v H, post v H ∧ s' = S.put ⟨s.n, s.T, H ++ s.H, s.K⟩ o.dst v) := by
  intro g a w hs K Q hK
  have hfx' : a.eval fx = .func (.func f) #[] ([] : List Value).toArray := by
    have h := hs.ev hfx
    generalize a.eval fx = u at h
    cases h with
    | fn _ _ cs hl _ =>
      obtain rfl : cs = [] := by cases cs with | nil => rfl | cons => simp at hl
      rfl
  have hx : VReps w (fun b => ¬ ¬ qt c s.H g b) g args (xs.toList.map a.eval) := by
    refine ⟨by simpa using (congrArg List.length hargs).symm, fun j u y hu hy => ?_⟩
    have h1 := congrArg (fun l => l[j]?) hargs
    simp only [List.getElem?_map, hu, Option.map_some] at h1 hy
    cases h2 : xs.toList[j]? with
    | none => rw [h2] at h1; cases h1
    | some p =>
      rw [h2] at h1 hy
      simp only [Option.map_some, Option.some.injEq] at h1 hy
      subst hy
      exact (hs.ev h1).mono Cells.rfl (fun b hb _ => not_not_intro hb) (fun r _ => rfl)
  unfold Oper.wp
  rw [exec_call (caps := []) hf ho hfx']
  simp only [Oper.upon, List.append_nil]
  refine (hfn w (fun b => ¬ qt c s.H g b) g _ ?_ hx).mono ?_
  · intro b hb
    rcases Classical.em (c.out b) with h | h
    · exact Nat.lt_of_lt_of_le (hs.low b h) hs.below.size
    · rcases Classical.em (∃ r row, fnd s.H r = some row ∧ row.nil = false ∧ (g r).1 = b) with ⟨r, row, h1, h2, rfl⟩ | h'
      · obtain ⟨arr, h3, _⟩ := hs.obj r row h1 h2
        exact (Array.getElem?_eq_some_iff.1 h3).1
      · exact absurd ⟨h, fun r row h1 h2 h3 => h' ⟨r, row, h1, h2, h3⟩⟩ hb
  · rintro e w' ⟨v, x, g', H, rfl, h1, hcl, hO, h3, h4⟩
    have hfresh : ∀ k row, (k, row) ∈ H → s.clean k = true := fun k row hk => List.all_eq_true.1 (hfr v H h1) _ hk
    classical
    let G : Nat → Nat × Nat := fun k => if (fnd H k).isSome then g' k else g k
    have hG1 : ∀ k row, fnd H k = some row → G k = g' k := fun k row hk => by simp [G, hk]
    have hmem : ∀ k row, (k, row) ∈ H → ∃ row', fnd H k = some row' := by
      intro k row hk
      have : ∀ (l : List (Nat × Row)), (k, row) ∈ l → ∃ row', fnd l k = some row' := by
        intro l
        induction l with
        | nil => intro h; cases h
        | cons y l ih =>
          intro h
          simp only [fnd]
          split
          · exact ⟨_, rfl⟩
          · rename_i hne
            rcases List.mem_cons.1 h with rfl | h
            · simp at hne
            · exact ih h
      exact this H hk
    have hG2 : ∀ k, (∃ row, (k, row) ∈ H) → G k = g' k := fun k ⟨row, hk⟩ => by obtain ⟨row', h⟩ := hmem k row hk; exact hG1 k row' h
    have hG3 : ∀ k row, fnd s.H k = some row → G k = g k := by
      intro k row hk
      have : fnd H k = none := by
        cases hh : fnd H k with
        | none => rfl
        | some row' => exact absurd rfl (S.clean_obj (hfresh k row' (fnd_mem hh)) hk).1
      simp [G, this]
    have hG4 : ∀ u : V, (∀ k row, (k, row) ∈ H → u.has k = false) → ∀ k, u.has k = true → G k = g k := by
      intro u hu k hk
      have : fnd H k = none := by
        cases hh : fnd H k with
        | none => rfl
        | some row' => have := hu k row' (fnd_mem hh); rw [hk] at this; cases this
      simp [G, this]
    have hfn : ∀ k row, fnd (H ++ s.H) k = some row → fnd H k = some row ∨ fnd H k = none ∧ fnd s.H k = some row := by
      intro k row hk
      have happ : ∀ (l l' : List (Nat × Row)) (i : Nat), fnd (l ++ l') i = match fnd l i with | some v => some v | none => fnd l' i := by
        intro l l' i
        induction l with
        | nil => simp [fnd]
        | cons y l ih => simp only [List.cons_append, fnd]; split; rfl; exact ih
      rw [happ] at hk
      cases hh : fnd H k with
      | some row' => rw [hh] at hk; exact .inl hk
      | none => rw [hh] at hk; exact .inr ⟨rfl, hk⟩
    have hlt : ∀ {b o}, w.heap[b]? = some o → b < w.heap.size := fun h => (Array.getElem?_eq_some_iff.1 h).1
    have hq1 : ∀ b, qt c s.H g b → b < w.heap.size → qt c (H ++ s.H) G b := by
      intro b hb hbl
      refine ⟨hb.1, fun k row hk hn => ?_⟩
      rcases hfn k row hk with h | ⟨_, h⟩
      · rw [hG1 k row h]
        have := hO.new k row h hn
        omega
      · rw [hG3 k row h]
        exact hb.2 k row h hn
    have hq2 : ∀ b, (¬ ¬ qt c s.H g b ∧ ∀ r row, fnd H r = some row → row.nil = false → (g' r).1 ≠ b) → b < w'.heap.size → qt c (H ++ s.H) G b := by
      intro b hb _
      have hb1 := Classical.not_not.1 hb.1
      refine ⟨hb1.1, fun k row hk hn => ?_⟩
      rcases hfn k row hk with h | ⟨_, h⟩
      · rw [hG1 k row h]
        exact hb.2 k row h hn
      · rw [hG3 k row h]
        exact hb1.2 k row h hn
    have hcells : Cells w w' (qt c s.H g) := ⟨h4.size, fun b o u _ h1 h2 => (h4.cell (p := ⟨b, o, none⟩) h1).trans h2, Below.maps h4⟩
    have hold : ∀ {u y}, (∀ k row, (k, row) ∈ H → V.has k u = false) → VRep w (qt c s.H g) g u y → VRep w' (qt c (H ++ s.H) G) G u y := fun hu hy => hy.mono hcells hq1 (hG4 _ hu)
    have hnew : ∀ {u y}, (∀ k, V.has k u = true → ∃ row, (k, row) ∈ H) → VRep w' (fun b => ¬ ¬ qt c s.H g b ∧ ∀ r row, fnd H r = some row → row.nil = false → (g' r).1 ≠ b) g' u y → VRep w' (qt c (H ++ s.H) G) G u y := fun hu hy =>
      hy.mono Cells.rfl hq2 (fun k hk => hG2 k (hu k hk))
    have hsim : Sim c G ⟨s.n, s.T, H ++ s.H, s.K⟩ a w' := by
      refine ⟨hs.size, hs.defers, ?_, ?_, ?_, ?_, ?_, ?_, hs.low, hs.below.trans (h4.mono hs.below.size)⟩
      · intro i u hu
        obtain ⟨y, a1, a2⟩ := hs.tmp i u hu
        exact ⟨y, a1, hold (fun k row hk => S.clean_tmp (hfresh k row hk) hu) a2⟩
      · intro k row hk hn
        rcases hfn k row hk with h | ⟨_, h⟩
        · exact hO.nul k row h hn
        · exact hs.nul k row h hn
      · intro k row hk hn
        rcases hfn k row hk with h | ⟨_, h⟩
        · obtain ⟨arr, a1, a2, a3⟩ := hO.obj k row h hn
          refine ⟨arr, by rw [hG1 k row h]; exact a1, by rw [hG1 k row h]; exact a2, fun j u hu => ?_⟩
          obtain ⟨y, a4, a5⟩ := a3 j u hu
          refine ⟨y, a4, hnew (fun k' hk' => ?_) a5⟩
          refine hO.closed k row k' h ?_
          cases hh : V.hasL k' row.cells with
          | true => rfl
          | false => have := V.hasL_false.1 hh u (List.mem_of_getElem? hu); rw [hk'] at this; cases this
        · obtain ⟨arr, a1, a2, a3⟩ := hs.obj k row h hn
          refine ⟨arr, by rw [hG3 k row h]; exact (h4.block _ (hlt a1)).trans a1, by rw [hG3 k row h]; exact a2, fun j u hu => ?_⟩
          obtain ⟨y, a4, a5⟩ := a3 j u hu
          exact ⟨y, a4, hold (fun k' row' hk' => (S.clean_obj (hfresh k' row' hk') h).2 u (List.mem_of_getElem? hu)) a5⟩
      · intro j u y a1 a2
        exact hold (fun k row hk => S.clean_keep (hfresh k row hk) a1) (hs.keep j u y a1 a2)
      · intro k k' row row' b1 n1 b2 n2 b3
        rcases hfn k row b1 with c1 | ⟨_, c1⟩ <;> rcases hfn k' row' b2 with c2 | ⟨_, c2⟩
        · rw [hG1 k row c1, hG1 k' row' c2] at b3
          exact hO.inj k k' row row' c1 n1 c2 n2 b3
        · rw [hG1 k row c1, hG3 k' row' c2] at b3
          have d1 := hO.new k row c1 n1
          obtain ⟨arr, d2, _⟩ := hs.obj k' row' c2 n2
          have := hlt d2
          omega
        · rw [hG3 k row c1, hG1 k' row' c2] at b3
          have d1 := hO.new k' row' c2 n2
          obtain ⟨arr, d2, _⟩ := hs.obj k row c1 n1
          have := hlt d2
          omega
        · rw [hG3 k row c1, hG3 k' row' c2] at b3
          exact hs.inj k k' row row' c1 n1 c2 n2 b3
      · intro k row b1 n1
        rcases hfn k row b1 with c1 | ⟨_, c1⟩
        · rw [hG1 k row c1]
          have := hO.new k row c1 n1
          have := hs.below.size
          omega
        · rw [hG3 k row c1]
          exact hs.base k row c1 n1
    refine hK G _ _ _ ⟨v, H, h1, rfl⟩ (hsim.put o.dst (dok_spec (s := s) hd) (hnew hcl h3)) h4
theorem AL.callo {Q : Exit → S → Prop} {ops : Array Oper} {rest : List Oper} {post : V → List (Nat × Row) → Prop} (hg : o.guard = none) (h : StepM c o s (fun s' => ∃ v H, post v H ∧ s' = S.put ⟨s.n, s.T, H ++ s.H, s.K⟩ o.dst v)) (hN : ∀ v H, post v H → AL c ops rest Q (S.put ⟨s.n, s.T, H ++ s.H, s.K⟩ o.dst v)) : AL c ops (o :: rest) Q s :=
  AL.stepM hg fun g a w hs K Q' hK => h g a w hs K Q' fun g' s' a' w' ⟨v, H, h1, e⟩ h3 h4 => hK g' s' a' w' (by subst e; exact hN v H h1) h3 h4
end
theorem FnO.mach {P : Program} {f : FuncId} {args : List V} {post : V → List (Nat × Row) → Prop} (m : Mach) (j : Nat) (hj : args[j]? = some (mV m)) (h : m.states.length ≤ 4398046511104 → (∀ x ∈ m.states, x.arcs.length ≤ 4398046511104) → FnO P f args post) : FnO P f args post := by
  intro w out g xs ho hx
  have hlt : j < xs.length := by rw [← hx.1]; exact (List.getElem?_eq_some_iff.1 hj).1
  have hv := hx.2 j _ _ hj (List.getElem?_eq_getElem hlt)
  generalize xs[j] = y at hv
  cases hv with
  | agg _ cs hl hh =>
    have hc : 1 < cs.length := by simp at hl; omega
    have h1 := hh 1 _ cs[1] rfl (List.getElem?_eq_getElem hc)
    cases h1 with
    | d _ _ h2 =>
      have h3 := h2.bound
      simp only [List.length_map] at h3
      refine h (by omega) (fun x hx => ?_) w out g xs ho hx
      obtain ⟨i, hi⟩ := List.getElem?_of_mem hx
      obtain ⟨z, h4⟩ := h2.row (i := i) (j := 1) (row := stD x) (by simp [hi]) rfl
      have h5 := h4.bound
      simp only [List.length_map] at h5
      omega
theorem flat_at {α : Type} {enc : α → List V} {sz : Nat} (hsz : ∀ x, (enc x).length = sz) : ∀ (W : List α) (k j : Nat) (x : α) (v : V), W[k]? = some x → (enc x)[j]? = some v → (W.flatMap enc)[k * sz + j]? = some v
  | [], k, j, x, v, h, _ => by simp at h
  | y :: W, 0, j, x, v, h, hv => by
    simp at h
    subst h
    rw [List.flatMap_cons, Nat.zero_mul, Nat.zero_add, List.getElem?_append_left (List.getElem?_eq_some_iff.1 hv).1, hv]
  | y :: W, k + 1, j, x, v, h, hv => by
    have := flat_at hsz W k j x v (by simpa using h) hv
    rw [List.flatMap_cons, List.getElem?_append_right (by rw [hsz, Nat.succ_mul]; omega), hsz, show (k + 1) * sz + j - sz = k * sz + j by rw [Nat.succ_mul]; omega, this]
section
variable {c : Cx} {s : S} {o : Oper} {α : Type}
theorem rd_load_flat {t : TypeId} {d : TypeDesc} {x : Operand} {r k j sz : Nat} {row : Row} {W : List α} {enc : α → List V} {y : α} {v : V} (hu : c.P.underlying t = some d) (hd : isAggD d = false) (ho : o.op = .load t x) (hx : s.ev x = some (.ref r (k * sz + j))) (hr : fnd s.H r = some row) (hn : row.nil = false) (hc : row.cells = W.flatMap enc) (hsz : ∀ x, (enc x).length = sz) (hl : W[k]? = some y) (hv : (enc y)[j]? = some v) : RD c o s v :=
  rd_load_ref hu hd ho hx hr hn (by rw [hc]; exact flat_at hsz W k j y v hl hv)
end
end Go.Proofs.Ythlcginebeapdaa
namespace Go.Proofs.Ythlcginebeapdaa
open Go.RowKit
set_option linter.unusedSimpArgs false
set_option linter.unusedVariables false

section
variable {c : Cx} {s : S} {o : Oper} {Q : Exit → S → Prop}
/-- Nothing is appended. -/
theorem rp_append_nil {t e : TypeId} {x y : Operand} {r sz bt n : Nat} {z : Value} {f : Bool} (hu : c.P.underlying t = some (.slice e)) (hi : Inf c.P e sz bt z)
    (ho : o.op = .call { callee := .builtin .append, args := #[x, y], argTypes := #[t, t] }) (hx : s.ev x = some (.own r sz n f)) (hy : s.ev y = some .nil) : RP c o s (.own r sz n f) := fun g a w hs => by
  have h := hs.ev hx
  have hyv := VRep.p_eq (hs.ev hy)
  obtain ⟨i, hi1, hi2, hi3, hi4⟩ := hi.out
  refine ⟨a.eval x, h, fun w' => ?_⟩
  generalize hxx : a.eval x = u at h
  cases h with
  | own _ _ _ hn hcap =>
    simp only [execOp, ho, resolve, invoke, builtin, Sem.run_bind, Sem.run_pure, Result.andThen_ok, List.map_toArray, List.map_cons, List.map_nil, hxx, hyv]
    rw [run_append_nothing w' t t o.type e i hu hi1 _ n (g r).2 hn _ ⟨.inl ⟨e, hu⟩, fun _ => rfl, by simp [Builtin.firstCells, Sem.run], by simp [Builtin.firstCells, Sem.run], by simp, by simp⟩]
    rfl
  | ownNil =>
    simp only [execOp, ho, resolve, invoke, builtin, Sem.run_bind, Sem.run_pure, Result.andThen_ok, List.map_toArray, List.map_cons, List.map_nil, hxx, hyv]
    rw [run_append_nothing w' t t o.type e i hu hi1 none 0 0 (Nat.le_refl _) _ ⟨.inl ⟨e, hu⟩, fun _ => rfl, by simp [Builtin.firstCells, Sem.run], by simp [Builtin.firstCells, Sem.run], by simp, by simp⟩]
    rfl
/-- An array of parts. -/
theorem rp_build_arr {t e : TypeId} {len esz ebt : Nat} {ez : Value} {ps : Array (Nat × Operand)} {sz bt : Nat} {z : Value} {vs : List (Nat × V)} {zs l : List V} (hu : c.P.underlying t = some (.array len e)) (hie : Inf c.P e esz ebt ez) (hi : Inf c.P t sz bt z) (ho : o.op = .build t ps)
    (hv : ps.toList.map (fun x => (x.1, s.ev x.2)) = vs.map (fun x => (x.1, some x.2))) (hzs : z.cells.toList.map (fun y => V.d (.p y)) = zs) (hf : fillV (fun i => some (i * esz, esz)) zs vs = some l) : RP c o s (.agg l) := fun g a w hs => by
  subst hzs
  obtain ⟨h1, h2⟩ := parts_rep hs hv
  obtain ⟨arr, h3, h4, h5⟩ := fill_rep (w := w) (q := qt c s.H g) (g := g) (place := fun i => some (i * esz, esz)) vs (ps.toList.map fun x => (x.1, a.eval x.2)) _ z.cells l hf h1 h2 (by simp) (zero_rep z)
  refine ⟨.agg arr, ?_, fun w' => ?_⟩
  · have := VRep.agg (w := w) (q := qt c s.H g) (g := g) l arr.toList (by simpa using h4) (fun j u y hu hy => h5 j u y hu (by simpa using hy))
    simpa using this
  · obtain ⟨i, hi1, hi2, hi3, hi4⟩ := hi.out
    obtain ⟨ie, he1, he2, he3, he4⟩ := hie.out
    have hb : c.P.built t (ps.map fun (i, x) => (i, a.eval x)).toList = some arr := by
      simp only [Program.built, hi1, hu, hi4, he1, he2]
      rw [← h3]
      simp
    simp only [execOp, ho, Sem.run_bind, run_build w' t _ arr hb, Result.andThen_ok]
    rfl
theorem AD2.callo {L : List Oper} {need : Nat → Bool} {l : List (Nat × Bool)} {i : Nat} {post : V → List (Nat × Row) → Prop} (hi : L[i]? = some o) (hg : o.guard = none) (h : StepM c o s (fun s' => ∃ v H, post v H ∧ s' = S.put ⟨s.n, s.T, H ++ s.H, s.K⟩ o.dst v)) (hN : ∀ v H, post v H → AD2 c L.toArray Q need l (S.put ⟨s.n, s.T, H ++ s.H, s.K⟩ o.dst v)) : AD2 c L.toArray Q need ((i, false) :: l) s :=
  AD2.stepM hi hg fun g a w hs K Q' hK => h g a w hs K Q' fun g' s' a' w' ⟨v, H, h1, e⟩ h3 h4 => hK g' s' a' w' (by subst e; exact hN v H h1) h3 h4
end
end Go.Proofs.Ythlcginebeapdaa
namespace Go.Proofs.Ythlcginebeapdaa
open Go.RowKit
set_option linter.unusedSimpArgs false
set_option linter.unusedVariables false

section
variable {c : Cx} {s : S} {o : Oper} {Q : Exit → S → Prop} {L : List Oper} {need : Nat → Bool} {l : List (Nat × Bool)} {i r : Nat}

/-- A store in place: only the block of object r has turned. -/
def StepS (c : Cx) (o : Oper) (s : S) (r : Nat) (row' : Row) : Prop := ∀ g a w, Sim c g s a w → ∀ (K : Act → World → Prop) (Q : Exit → Act → World → Prop),
  (∀ a' w', Sim c g { s with H := (r, row') :: s.H } a' w' → (w'.heap.size = w.heap.size ∧ ∀ k, k ≠ (g r).1 → w'.heap[k]? = w.heap[k]?) → K a' w') → o.wp c.P a w K Q
theorem AE2.rp1 {v : V} (hi : L[i]? = some o) (hg : o.guard = none) (hd : dok s o = true) (h : RP c o s v) (hN : AE2 c L.toArray Q need r l (s.put o.dst v)) : AE2 c L.toArray Q need r ((i, false) :: l) s := fun W e g a w hs he hb hl =>
  wpOp_of (by simpa using hi) hg (by
    obtain ⟨x, h1, h2⟩ := h g a w hs
    unfold Oper.wp
    rw [h2 w]
    exact ⟨fun _ => hb, hN W e g _ w (hs.put o.dst (dok_spec hd) h1) he.put hb hl⟩)
theorem AE2.nil (h : Q .normal s) : AE2 c L.toArray Q need r [] s := fun W e g a w hs _ _ _ => ⟨g, s, h, hs⟩

/-- The guard's own operation was passed over: so is this one. -/
def und (ops : Array Oper) (s : S) (j : Nat) : Prop := ∃ d, (ops[j]?).bind (·.dst) = some d ∧ fnd s.T d = some (.d (.p undef))
theorem und_spec {ops : Array Oper} {j : Nat} {g : Nat → Nat × Nat} {a : Act} {w : World} (h : und ops s j) (hs : Sim c g s a w) : yielded ops a.tmps j = none := by
  obtain ⟨d, h1, h2⟩ := h
  obtain ⟨x, h3, h4⟩ := hs.tmp d _ h2
  have := VRep.p_eq h4
  subst this
  simp [yielded, h1, h3, undef]
theorem AL.noV {ops : Array Oper} {rest : List Oper} {j : Nat} {b b' : Bool} (hg : o.guard = some (j, b)) (hy : yld ops s j = some b') (hb : (b' == b) = false) (hd : dok s o = true) (h : AL c ops rest Q (s.put o.dst (.d (.p undef)))) : AL c ops (o :: rest) Q s := fun g a w hs =>
  wpList_step fun K hK => by
    have hw : ¬ Region.wanted o (yielded ops a.tmps) = true := by
      simp only [Region.wanted, hg, yld_spec hy hs]
      simpa using hb
    rw [if_neg hw]
    exact hK _ _ (h g _ w (hs.put o.dst (dok_spec hd) (.d _ _ (.p _))))
theorem AL.noU {ops : Array Oper} {rest : List Oper} {j : Nat} {b : Bool} (hg : o.guard = some (j, b)) (hy : und ops s j) (hd : dok s o = true) (h : AL c ops rest Q (s.put o.dst (.d (.p undef)))) : AL c ops (o :: rest) Q s := fun g a w hs =>
  wpList_step fun K hK => by
    have hw : ¬ Region.wanted o (yielded ops a.tmps) = true := by
      simp only [Region.wanted, hg, und_spec hy hs]
      simp
    rw [if_neg hw]
    exact hK _ _ (h g _ w (hs.put o.dst (dok_spec hd) (.d _ _ (.p _))))
theorem AD1.noV {j : Nat} {b b' : Bool} (hi : L[i]? = some o) (hg : o.guard = some (j, b)) (hy : yld L.toArray s j = some b') (hb : (b' == b) = false) (hd : dok s o = true) (hp : noP Q) (hN : AD1 c L.toArray Q need l (s.put o.dst (.d (.p undef)))) : AD1 c L.toArray Q need ((i, true) :: l) s := fun g a w hs =>
  ⟨o, undef, by simpa using hi, .inr ⟨by simp only [Region.wanted, hg, yld_spec hy hs]; simpa using hb, rfl⟩, Below.refl _ _, QQ_noP hp _ _, hN g _ w (hs.put o.dst (dok_spec hd) (.d _ _ (.p _)))⟩
theorem AD1.noU {j : Nat} {b : Bool} (hi : L[i]? = some o) (hg : o.guard = some (j, b)) (hy : und L.toArray s j) (hd : dok s o = true) (hp : noP Q) (hN : AD1 c L.toArray Q need l (s.put o.dst (.d (.p undef)))) : AD1 c L.toArray Q need ((i, true) :: l) s := fun g a w hs =>
  ⟨o, undef, by simpa using hi, .inr ⟨by simp only [Region.wanted, hg, und_spec hy hs]; simp, rfl⟩, Below.refl _ _, QQ_noP hp _ _, hN g _ w (hs.put o.dst (dok_spec hd) (.d _ _ (.p _)))⟩

end
end Go.Proofs.Ythlcginebeapdaa
namespace Go.Proofs.Ythlcginebeapdaa
open Go.RowKit
set_option linter.unusedSimpArgs false
set_option linter.unusedVariables false
set_option maxRecDepth 100000

theorem am_weight (x : Int) : Fn Try.prog 27 [.i x] (fun v => v = .b (decide (0 ≤ x ∧ x ≤ 1000000000))) := by
 refine Fn.intro (n := 9) ⟨Try.func27, rfl, rfl, rfl, rfl⟩ (by simp [V.pure, V.has, V.hasL]) (by simp) fun w0 out => ?_
 by_cases h1 : 0 ≤ x
 ·by_cases h2 : x ≤ 1000000000
  ·skip
   refine AW.seq ?_
   refine AW.region ?_
   refine AL.rp rfl rfl (rp_assign rfl rfl) ?_
   refine AL.nil ?_
   try simp only [thenS, S.put, enum, List.nil_append, List.cons_append, List.append_nil, Nat.zero_add, Nat.reduceAdd]
   refine AW.seq ?_
   refine AW.region ?_
   refine AL.rp rfl rfl (rp_move rfl rfl) ?_
   (refine AL.rp rfl rfl (rp_geqT rfl rfl rfl (by first | assumption | omega | (dsimp only; omega))) ?_)
   refine AL.rp rfl rfl (rp_move rfl rfl) ?_
   refine AL.rpy rfl rfl rfl (rp_move rfl rfl) ?_
   (refine AL.rpy rfl rfl rfl (rp_leqT rfl rfl rfl (by first | assumption | omega | (dsimp only; omega))) ?_)
   refine AL.rp rfl rfl (rp_pick rfl rfl rfl) ?_
   refine AL.rp rfl rfl (rp_assign rfl rfl) ?_
   refine AL.nil ?_
   try simp only [thenS, S.put]
   refine AW.ret ?_
   exact ⟨[_], ⟨rfl, trivial⟩, by simp [tupOf, h1, h2], by simp [tupOf, V.pure, V.has]⟩
  ·skip
   refine AW.seq ?_
   refine AW.region ?_
   refine AL.rp rfl rfl (rp_assign rfl rfl) ?_
   refine AL.nil ?_
   try simp only [thenS, S.put, enum, List.nil_append, List.cons_append, List.append_nil, Nat.zero_add, Nat.reduceAdd]
   refine AW.seq ?_
   refine AW.region ?_
   refine AL.rp rfl rfl (rp_move rfl rfl) ?_
   (refine AL.rp rfl rfl (rp_geqT rfl rfl rfl (by first | assumption | omega | (dsimp only; omega))) ?_)
   refine AL.rp rfl rfl (rp_move rfl rfl) ?_
   refine AL.rpy rfl rfl rfl (rp_move rfl rfl) ?_
   (refine AL.rpy rfl rfl rfl (rp_leqF rfl rfl rfl (by first | assumption | omega | (dsimp only; omega))) ?_)
   refine AL.rp rfl rfl (rp_pick rfl rfl rfl) ?_
   refine AL.rp rfl rfl (rp_assign rfl rfl) ?_
   refine AL.nil ?_
   try simp only [thenS, S.put]
   refine AW.ret ?_
   exact ⟨[_], ⟨rfl, trivial⟩, by simp [tupOf, h1, h2], by simp [tupOf, V.pure, V.has]⟩
 ·skip
  refine AW.seq ?_
  refine AW.region ?_
  refine AL.rp rfl rfl (rp_assign rfl rfl) ?_
  refine AL.nil ?_
  try simp only [thenS, S.put, enum, List.nil_append, List.cons_append, List.append_nil, Nat.zero_add, Nat.reduceAdd]
  refine AW.seq ?_
  refine AW.region ?_
  refine AL.rp rfl rfl (rp_move rfl rfl) ?_
  (refine AL.rp rfl rfl (rp_geqF rfl rfl rfl (by first | assumption | omega | (dsimp only; omega))) ?_)
  refine AL.rp rfl rfl (rp_move rfl rfl) ?_
  refine AL.no rfl rfl rfl rfl ?_
  refine AL.no rfl rfl rfl rfl ?_
  refine AL.rp rfl rfl (rp_pick rfl rfl rfl) ?_
  refine AL.rp rfl rfl (rp_assign rfl rfl) ?_
  refine AL.nil ?_
  try simp only [thenS, S.put]
  refine AW.ret ?_
  exact ⟨[_], ⟨rfl, trivial⟩, by simp [tupOf, h1], by simp [tupOf, V.pure, V.has]⟩
theorem am_label (x : Int) : Fn Try.prog 53 [.i x] (fun v => v = .b (decide (0 ≤ x ∧ x ≤ 1000))) := by
 refine Fn.intro (n := 9) ⟨Try.func53, rfl, rfl, rfl, rfl⟩ (by simp [V.pure, V.has, V.hasL]) (by simp) fun w0 out => ?_
 by_cases h1 : 0 ≤ x
 ·by_cases h2 : x ≤ 1000
  ·skip
   refine AW.seq ?_
   refine AW.region ?_
   refine AL.rp rfl rfl (rp_assign rfl rfl) ?_
   refine AL.nil ?_
   try simp only [thenS, S.put, enum, List.nil_append, List.cons_append, List.append_nil, Nat.zero_add, Nat.reduceAdd]
   refine AW.seq ?_
   refine AW.region ?_
   refine AL.rp rfl rfl (rp_move rfl rfl) ?_
   (refine AL.rp rfl rfl (rp_geqT rfl rfl rfl (by first | assumption | omega | (dsimp only; omega))) ?_)
   refine AL.rp rfl rfl (rp_move rfl rfl) ?_
   refine AL.rpy rfl rfl rfl (rp_move rfl rfl) ?_
   (refine AL.rpy rfl rfl rfl (rp_leqT rfl rfl rfl (by first | assumption | omega | (dsimp only; omega))) ?_)
   refine AL.rp rfl rfl (rp_pick rfl rfl rfl) ?_
   refine AL.rp rfl rfl (rp_assign rfl rfl) ?_
   refine AL.nil ?_
   try simp only [thenS, S.put]
   refine AW.ret ?_
   exact ⟨[_], ⟨rfl, trivial⟩, by simp [tupOf, h1, h2], by simp [tupOf, V.pure, V.has]⟩
  ·skip
   refine AW.seq ?_
   refine AW.region ?_
   refine AL.rp rfl rfl (rp_assign rfl rfl) ?_
   refine AL.nil ?_
   try simp only [thenS, S.put, enum, List.nil_append, List.cons_append, List.append_nil, Nat.zero_add, Nat.reduceAdd]
   refine AW.seq ?_
   refine AW.region ?_
   refine AL.rp rfl rfl (rp_move rfl rfl) ?_
   (refine AL.rp rfl rfl (rp_geqT rfl rfl rfl (by first | assumption | omega | (dsimp only; omega))) ?_)
   refine AL.rp rfl rfl (rp_move rfl rfl) ?_
   refine AL.rpy rfl rfl rfl (rp_move rfl rfl) ?_
   (refine AL.rpy rfl rfl rfl (rp_leqF rfl rfl rfl (by first | assumption | omega | (dsimp only; omega))) ?_)
   refine AL.rp rfl rfl (rp_pick rfl rfl rfl) ?_
   refine AL.rp rfl rfl (rp_assign rfl rfl) ?_
   refine AL.nil ?_
   try simp only [thenS, S.put]
   refine AW.ret ?_
   exact ⟨[_], ⟨rfl, trivial⟩, by simp [tupOf, h1, h2], by simp [tupOf, V.pure, V.has]⟩
 ·skip
  refine AW.seq ?_
  refine AW.region ?_
  refine AL.rp rfl rfl (rp_assign rfl rfl) ?_
  refine AL.nil ?_
  try simp only [thenS, S.put, enum, List.nil_append, List.cons_append, List.append_nil, Nat.zero_add, Nat.reduceAdd]
  refine AW.seq ?_
  refine AW.region ?_
  refine AL.rp rfl rfl (rp_move rfl rfl) ?_
  (refine AL.rp rfl rfl (rp_geqF rfl rfl rfl (by first | assumption | omega | (dsimp only; omega))) ?_)
  refine AL.rp rfl rfl (rp_move rfl rfl) ?_
  refine AL.no rfl rfl rfl rfl ?_
  refine AL.no rfl rfl rfl rfl ?_
  refine AL.rp rfl rfl (rp_pick rfl rfl rfl) ?_
  refine AL.rp rfl rfl (rp_assign rfl rfl) ?_
  refine AL.nil ?_
  try simp only [thenS, S.put]
  refine AW.ret ?_
  exact ⟨[_], ⟨rfl, trivial⟩, by simp [tupOf, h1], by simp [tupOf, V.pure, V.has]⟩
theorem am_arc (y : Ar) (n : Int) : Fn Try.prog 30 [.agg ((arD y).map V.d), .i n] (fun v => v = .b (arOk n y)) := by
 refine Fn.intro (n := 32) ⟨Try.func30, rfl, rfl, rfl, rfl⟩ (by simp [V.pure, V.has, V.hasL]) (by simp) fun w0 out => ?_
 by_cases hok : (0 ≤ y.i ∧ y.i ≤ 1000) ∧ (0 ≤ y.o ∧ y.o ≤ 1000) ∧ (0 ≤ y.w ∧ y.w ≤ 1000000000) ∧ 0 ≤ y.t ∧ y.t < n
 ·rw [arOk_yes hok]
  obtain ⟨h1, h2, h3, h4, h5⟩ := hok
  refine AW.seq ?_
  refine AW.region ?_
  refine AL.sm rfl (sm_box 2 rfl rfl rfl rfl rfl) ?_
  refine AL.rp rfl rfl (rp_assign rfl rfl) ?_
  refine AL.nil ?_
  try simp only [thenS, S.put, S.newObj, setL, V.cs, List.length_cons, List.length_nil, List.take_succ_cons, List.take_zero, List.drop_succ_cons, List.drop_zero, List.drop_nil, List.nil_append, List.cons_append, List.append_nil, Nat.zero_add, Nat.reduceAdd, List.map_cons, List.map_nil, List.set_cons_zero, List.set_cons_succ, enum]
  refine AW.seq ?_
  refine AW.region ?_
  refine AL.rp rfl rfl (rp_assign rfl rfl) ?_
  refine AL.nil ?_
  try simp only [thenS, S.put]
  refine AW.seq ?_
  refine AW.region ?_
  refine AL.rp rfl rfl (rp_move rfl rfl) ?_
  refine AL.rp rfl rfl (rp_field_ref Try.underlying54 rfl rfl rfl inf3 (by decide) rfl) ?_
  refine AL.rd rfl rfl (rd_load_ref Try.underlying3 rfl rfl rfl rfl rfl rfl) ?_
  refine AL.call (post := ?pc32) rfl (sm_callv (args := [_]) ?hc32 ⟨Try.func53, rfl, rfl, rfl, rfl⟩ rfl rfl rfl rfl) ?_
  case hc32 => (refine Fn.decT (am_label _) ?_; omega)
  rintro _ rfl -
  try dsimp only
  refine AL.rp rfl rfl (rp_move rfl rfl) ?_
  refine AL.rpy rfl rfl rfl (rp_move rfl rfl) ?_
  refine AL.rpy rfl rfl rfl (rp_field_ref Try.underlying54 rfl rfl rfl inf3 (by decide) rfl) ?_
  refine AL.rdy rfl rfl rfl (rd_load_ref Try.underlying3 rfl rfl rfl rfl rfl rfl) ?_
  (refine AL.cally (post := ?pc33) rfl rfl (sm_callv (args := [_]) ?hc33 ⟨Try.func53, rfl, rfl, rfl, rfl⟩ rfl rfl rfl rfl) ?_; (case hc33 => ((refine Fn.decT (am_label _) ?_; omega))); rintro _ rfl -; try dsimp only)
  refine AL.rp rfl rfl (rp_pick rfl rfl rfl) ?_
  refine AL.rp rfl rfl (rp_move rfl rfl) ?_
  refine AL.rpy rfl rfl rfl (rp_field_ref Try.underlying54 rfl rfl rfl inf3 (by decide) rfl) ?_
  refine AL.rdy rfl rfl rfl (rd_load_ref Try.underlying3 rfl rfl rfl rfl rfl rfl) ?_
  (refine AL.cally (post := ?pc34) rfl rfl (sm_call (args := [_]) ?hc34 ⟨Try.func27, rfl, rfl, rfl, rfl⟩ rfl rfl rfl rfl) ?_; (case hc34 => (refine Fn.decT (am_weight _) ?_; omega)); rintro _ rfl -; try dsimp only)
  refine AL.rp rfl rfl (rp_pick rfl rfl rfl) ?_
  refine AL.rp rfl rfl (rp_move rfl rfl) ?_
  refine AL.rpy rfl rfl rfl (rp_field_ref Try.underlying54 rfl rfl rfl inf3 (by decide) rfl) ?_
  refine AL.rdy rfl rfl rfl (rd_load_ref Try.underlying3 rfl rfl rfl rfl rfl rfl) ?_
  (refine AL.rpy rfl rfl rfl (rp_geqT rfl rfl rfl (by first | assumption | omega | (dsimp only; omega))) ?_)
  refine AL.rp rfl rfl (rp_pick rfl rfl rfl) ?_
  refine AL.rp rfl rfl (rp_move rfl rfl) ?_
  refine AL.rpy rfl rfl rfl (rp_field_ref Try.underlying54 rfl rfl rfl inf3 (by decide) rfl) ?_
  refine AL.rdy rfl rfl rfl (rd_load_ref Try.underlying3 rfl rfl rfl rfl rfl rfl) ?_
  refine AL.rpy rfl rfl rfl (rp_move rfl rfl) ?_
  (refine AL.rpy rfl rfl rfl (rp_lssT rfl rfl rfl (by first | assumption | omega | (dsimp only; omega))) ?_)
  refine AL.rp rfl rfl (rp_pick rfl rfl rfl) ?_
  refine AL.rp rfl rfl (rp_assign rfl rfl) ?_
  refine AL.nil ?_
  try simp only [thenS, S.put, S.newObj, setL, V.cs, List.length_cons, List.length_nil, List.take_succ_cons, List.take_zero, List.drop_succ_cons, List.drop_zero, List.drop_nil, List.nil_append, List.cons_append, List.append_nil, Nat.zero_add, Nat.reduceAdd, List.map_cons, List.map_nil, List.set_cons_zero, List.set_cons_succ]
  refine AW.ret ?_
  exact ⟨[_], ⟨rfl, trivial⟩, rfl, by simp [tupOf, V.pure, V.has]⟩
 ·rw [arOk_no hok]
  by_cases h1 : 0 ≤ y.i ∧ y.i ≤ 1000
  ·by_cases h2 : 0 ≤ y.o ∧ y.o ≤ 1000
   ·by_cases h3 : 0 ≤ y.w ∧ y.w ≤ 1000000000
    ·by_cases h4 : 0 ≤ y.t
     ·have h5 : ¬ y.t < n := fun h5 => hok ⟨h1, h2, h3, h4, h5⟩
      clear hok
      refine AW.seq ?_
      refine AW.region ?_
      refine AL.sm rfl (sm_box 2 rfl rfl rfl rfl rfl) ?_
      refine AL.rp rfl rfl (rp_assign rfl rfl) ?_
      refine AL.nil ?_
      try simp only [thenS, S.put, S.newObj, setL, V.cs, List.length_cons, List.length_nil, List.take_succ_cons, List.take_zero, List.drop_succ_cons, List.drop_zero, List.drop_nil, List.nil_append, List.cons_append, List.append_nil, Nat.zero_add, Nat.reduceAdd, List.map_cons, List.map_nil, List.set_cons_zero, List.set_cons_succ, enum]
      refine AW.seq ?_
      refine AW.region ?_
      refine AL.rp rfl rfl (rp_assign rfl rfl) ?_
      refine AL.nil ?_
      try simp only [thenS, S.put]
      refine AW.seq ?_
      refine AW.region ?_
      refine AL.rp rfl rfl (rp_move rfl rfl) ?_
      refine AL.rp rfl rfl (rp_field_ref Try.underlying54 rfl rfl rfl inf3 (by decide) rfl) ?_
      refine AL.rd rfl rfl (rd_load_ref Try.underlying3 rfl rfl rfl rfl rfl rfl) ?_
      refine AL.call (post := ?pc35) rfl (sm_callv (args := [_]) ?hc35 ⟨Try.func53, rfl, rfl, rfl, rfl⟩ rfl rfl rfl rfl) ?_
      case hc35 => (refine Fn.decT (am_label _) ?_; omega)
      rintro _ rfl -
      try dsimp only
      refine AL.rp rfl rfl (rp_move rfl rfl) ?_
      refine AL.rpy rfl rfl rfl (rp_move rfl rfl) ?_
      refine AL.rpy rfl rfl rfl (rp_field_ref Try.underlying54 rfl rfl rfl inf3 (by decide) rfl) ?_
      refine AL.rdy rfl rfl rfl (rd_load_ref Try.underlying3 rfl rfl rfl rfl rfl rfl) ?_
      (refine AL.cally (post := ?pc36) rfl rfl (sm_callv (args := [_]) ?hc36 ⟨Try.func53, rfl, rfl, rfl, rfl⟩ rfl rfl rfl rfl) ?_; (case hc36 => ((refine Fn.decT (am_label _) ?_; omega))); rintro _ rfl -; try dsimp only)
      refine AL.rp rfl rfl (rp_pick rfl rfl rfl) ?_
      refine AL.rp rfl rfl (rp_move rfl rfl) ?_
      refine AL.rpy rfl rfl rfl (rp_field_ref Try.underlying54 rfl rfl rfl inf3 (by decide) rfl) ?_
      refine AL.rdy rfl rfl rfl (rd_load_ref Try.underlying3 rfl rfl rfl rfl rfl rfl) ?_
      (refine AL.cally (post := ?pc37) rfl rfl (sm_call (args := [_]) ?hc37 ⟨Try.func27, rfl, rfl, rfl, rfl⟩ rfl rfl rfl rfl) ?_; (case hc37 => (refine Fn.decT (am_weight _) ?_; omega)); rintro _ rfl -; try dsimp only)
      refine AL.rp rfl rfl (rp_pick rfl rfl rfl) ?_
      refine AL.rp rfl rfl (rp_move rfl rfl) ?_
      refine AL.rpy rfl rfl rfl (rp_field_ref Try.underlying54 rfl rfl rfl inf3 (by decide) rfl) ?_
      refine AL.rdy rfl rfl rfl (rd_load_ref Try.underlying3 rfl rfl rfl rfl rfl rfl) ?_
      (refine AL.rpy rfl rfl rfl (rp_geqT rfl rfl rfl (by first | assumption | omega | (dsimp only; omega))) ?_)
      refine AL.rp rfl rfl (rp_pick rfl rfl rfl) ?_
      refine AL.rp rfl rfl (rp_move rfl rfl) ?_
      refine AL.rpy rfl rfl rfl (rp_field_ref Try.underlying54 rfl rfl rfl inf3 (by decide) rfl) ?_
      refine AL.rdy rfl rfl rfl (rd_load_ref Try.underlying3 rfl rfl rfl rfl rfl rfl) ?_
      refine AL.rpy rfl rfl rfl (rp_move rfl rfl) ?_
      (refine AL.rpy rfl rfl rfl (rp_lssF rfl rfl rfl (by first | assumption | omega | (dsimp only; omega))) ?_)
      refine AL.rp rfl rfl (rp_pick rfl rfl rfl) ?_
      refine AL.rp rfl rfl (rp_assign rfl rfl) ?_
      refine AL.nil ?_
      try simp only [thenS, S.put, S.newObj, setL, V.cs, List.length_cons, List.length_nil, List.take_succ_cons, List.take_zero, List.drop_succ_cons, List.drop_zero, List.drop_nil, List.nil_append, List.cons_append, List.append_nil, Nat.zero_add, Nat.reduceAdd, List.map_cons, List.map_nil, List.set_cons_zero, List.set_cons_succ]
      refine AW.ret ?_
      exact ⟨[_], ⟨rfl, trivial⟩, rfl, by simp [tupOf, V.pure, V.has]⟩
     ·clear hok
      refine AW.seq ?_
      refine AW.region ?_
      refine AL.sm rfl (sm_box 2 rfl rfl rfl rfl rfl) ?_
      refine AL.rp rfl rfl (rp_assign rfl rfl) ?_
      refine AL.nil ?_
      try simp only [thenS, S.put, S.newObj, setL, V.cs, List.length_cons, List.length_nil, List.take_succ_cons, List.take_zero, List.drop_succ_cons, List.drop_zero, List.drop_nil, List.nil_append, List.cons_append, List.append_nil, Nat.zero_add, Nat.reduceAdd, List.map_cons, List.map_nil, List.set_cons_zero, List.set_cons_succ, enum]
      refine AW.seq ?_
      refine AW.region ?_
      refine AL.rp rfl rfl (rp_assign rfl rfl) ?_
      refine AL.nil ?_
      try simp only [thenS, S.put]
      refine AW.seq ?_
      refine AW.region ?_
      refine AL.rp rfl rfl (rp_move rfl rfl) ?_
      refine AL.rp rfl rfl (rp_field_ref Try.underlying54 rfl rfl rfl inf3 (by decide) rfl) ?_
      refine AL.rd rfl rfl (rd_load_ref Try.underlying3 rfl rfl rfl rfl rfl rfl) ?_
      refine AL.call (post := ?pc38) rfl (sm_callv (args := [_]) ?hc38 ⟨Try.func53, rfl, rfl, rfl, rfl⟩ rfl rfl rfl rfl) ?_
      case hc38 => (refine Fn.decT (am_label _) ?_; omega)
      rintro _ rfl -
      try dsimp only
      refine AL.rp rfl rfl (rp_move rfl rfl) ?_
      refine AL.rpy rfl rfl rfl (rp_move rfl rfl) ?_
      refine AL.rpy rfl rfl rfl (rp_field_ref Try.underlying54 rfl rfl rfl inf3 (by decide) rfl) ?_
      refine AL.rdy rfl rfl rfl (rd_load_ref Try.underlying3 rfl rfl rfl rfl rfl rfl) ?_
      (refine AL.cally (post := ?pc39) rfl rfl (sm_callv (args := [_]) ?hc39 ⟨Try.func53, rfl, rfl, rfl, rfl⟩ rfl rfl rfl rfl) ?_; (case hc39 => ((refine Fn.decT (am_label _) ?_; omega))); rintro _ rfl -; try dsimp only)
      refine AL.rp rfl rfl (rp_pick rfl rfl rfl) ?_
      refine AL.rp rfl rfl (rp_move rfl rfl) ?_
      refine AL.rpy rfl rfl rfl (rp_field_ref Try.underlying54 rfl rfl rfl inf3 (by decide) rfl) ?_
      refine AL.rdy rfl rfl rfl (rd_load_ref Try.underlying3 rfl rfl rfl rfl rfl rfl) ?_
      (refine AL.cally (post := ?pc40) rfl rfl (sm_call (args := [_]) ?hc40 ⟨Try.func27, rfl, rfl, rfl, rfl⟩ rfl rfl rfl rfl) ?_; (case hc40 => (refine Fn.decT (am_weight _) ?_; omega)); rintro _ rfl -; try dsimp only)
      refine AL.rp rfl rfl (rp_pick rfl rfl rfl) ?_
      refine AL.rp rfl rfl (rp_move rfl rfl) ?_
      refine AL.rpy rfl rfl rfl (rp_field_ref Try.underlying54 rfl rfl rfl inf3 (by decide) rfl) ?_
      refine AL.rdy rfl rfl rfl (rd_load_ref Try.underlying3 rfl rfl rfl rfl rfl rfl) ?_
      (refine AL.rpy rfl rfl rfl (rp_geqF rfl rfl rfl (by first | assumption | omega | (dsimp only; omega))) ?_)
      refine AL.rp rfl rfl (rp_pick rfl rfl rfl) ?_
      refine AL.rp rfl rfl (rp_move rfl rfl) ?_
      refine AL.no rfl rfl rfl rfl ?_
      refine AL.no rfl rfl rfl rfl ?_
      refine AL.no rfl rfl rfl rfl ?_
      refine AL.no rfl rfl rfl rfl ?_
      refine AL.rp rfl rfl (rp_pick rfl rfl rfl) ?_
      refine AL.rp rfl rfl (rp_assign rfl rfl) ?_
      refine AL.nil ?_
      try simp only [thenS, S.put, S.newObj, setL, V.cs, List.length_cons, List.length_nil, List.take_succ_cons, List.take_zero, List.drop_succ_cons, List.drop_zero, List.drop_nil, List.nil_append, List.cons_append, List.append_nil, Nat.zero_add, Nat.reduceAdd, List.map_cons, List.map_nil, List.set_cons_zero, List.set_cons_succ]
      refine AW.ret ?_
      exact ⟨[_], ⟨rfl, trivial⟩, rfl, by simp [tupOf, V.pure, V.has]⟩
    ·clear hok
     refine AW.seq ?_
     refine AW.region ?_
     refine AL.sm rfl (sm_box 2 rfl rfl rfl rfl rfl) ?_
     refine AL.rp rfl rfl (rp_assign rfl rfl) ?_
     refine AL.nil ?_
     try simp only [thenS, S.put, S.newObj, setL, V.cs, List.length_cons, List.length_nil, List.take_succ_cons, List.take_zero, List.drop_succ_cons, List.drop_zero, List.drop_nil, List.nil_append, List.cons_append, List.append_nil, Nat.zero_add, Nat.reduceAdd, List.map_cons, List.map_nil, List.set_cons_zero, List.set_cons_succ, enum]
     refine AW.seq ?_
     refine AW.region ?_
     refine AL.rp rfl rfl (rp_assign rfl rfl) ?_
     refine AL.nil ?_
     try simp only [thenS, S.put]
     refine AW.seq ?_
     refine AW.region ?_
     refine AL.rp rfl rfl (rp_move rfl rfl) ?_
     refine AL.rp rfl rfl (rp_field_ref Try.underlying54 rfl rfl rfl inf3 (by decide) rfl) ?_
     refine AL.rd rfl rfl (rd_load_ref Try.underlying3 rfl rfl rfl rfl rfl rfl) ?_
     refine AL.call (post := ?pc41) rfl (sm_callv (args := [_]) ?hc41 ⟨Try.func53, rfl, rfl, rfl, rfl⟩ rfl rfl rfl rfl) ?_
     case hc41 => (refine Fn.decT (am_label _) ?_; omega)
     rintro _ rfl -
     try dsimp only
     refine AL.rp rfl rfl (rp_move rfl rfl) ?_
     refine AL.rpy rfl rfl rfl (rp_move rfl rfl) ?_
     refine AL.rpy rfl rfl rfl (rp_field_ref Try.underlying54 rfl rfl rfl inf3 (by decide) rfl) ?_
     refine AL.rdy rfl rfl rfl (rd_load_ref Try.underlying3 rfl rfl rfl rfl rfl rfl) ?_
     (refine AL.cally (post := ?pc42) rfl rfl (sm_callv (args := [_]) ?hc42 ⟨Try.func53, rfl, rfl, rfl, rfl⟩ rfl rfl rfl rfl) ?_; (case hc42 => ((refine Fn.decT (am_label _) ?_; omega))); rintro _ rfl -; try dsimp only)
     refine AL.rp rfl rfl (rp_pick rfl rfl rfl) ?_
     refine AL.rp rfl rfl (rp_move rfl rfl) ?_
     refine AL.rpy rfl rfl rfl (rp_field_ref Try.underlying54 rfl rfl rfl inf3 (by decide) rfl) ?_
     refine AL.rdy rfl rfl rfl (rd_load_ref Try.underlying3 rfl rfl rfl rfl rfl rfl) ?_
     (refine AL.cally (post := ?pc43) rfl rfl (sm_call (args := [_]) ?hc43 ⟨Try.func27, rfl, rfl, rfl, rfl⟩ rfl rfl rfl rfl) ?_; (case hc43 => (refine Fn.decF (am_weight _) ?_; omega)); rintro _ rfl -; try dsimp only)
     refine AL.rp rfl rfl (rp_pick rfl rfl rfl) ?_
     refine AL.rp rfl rfl (rp_move rfl rfl) ?_
     refine AL.no rfl rfl rfl rfl ?_
     refine AL.no rfl rfl rfl rfl ?_
     refine AL.no rfl rfl rfl rfl ?_
     refine AL.rp rfl rfl (rp_pick rfl rfl rfl) ?_
     refine AL.rp rfl rfl (rp_move rfl rfl) ?_
     refine AL.no rfl rfl rfl rfl ?_
     refine AL.no rfl rfl rfl rfl ?_
     refine AL.no rfl rfl rfl rfl ?_
     refine AL.no rfl rfl rfl rfl ?_
     refine AL.rp rfl rfl (rp_pick rfl rfl rfl) ?_
     refine AL.rp rfl rfl (rp_assign rfl rfl) ?_
     refine AL.nil ?_
     try simp only [thenS, S.put, S.newObj, setL, V.cs, List.length_cons, List.length_nil, List.take_succ_cons, List.take_zero, List.drop_succ_cons, List.drop_zero, List.drop_nil, List.nil_append, List.cons_append, List.append_nil, Nat.zero_add, Nat.reduceAdd, List.map_cons, List.map_nil, List.set_cons_zero, List.set_cons_succ]
     refine AW.ret ?_
     exact ⟨[_], ⟨rfl, trivial⟩, rfl, by simp [tupOf, V.pure, V.has]⟩
   ·clear hok
    refine AW.seq ?_
    refine AW.region ?_
    refine AL.sm rfl (sm_box 2 rfl rfl rfl rfl rfl) ?_
    refine AL.rp rfl rfl (rp_assign rfl rfl) ?_
    refine AL.nil ?_
    try simp only [thenS, S.put, S.newObj, setL, V.cs, List.length_cons, List.length_nil, List.take_succ_cons, List.take_zero, List.drop_succ_cons, List.drop_zero, List.drop_nil, List.nil_append, List.cons_append, List.append_nil, Nat.zero_add, Nat.reduceAdd, List.map_cons, List.map_nil, List.set_cons_zero, List.set_cons_succ, enum]
    refine AW.seq ?_
    refine AW.region ?_
    refine AL.rp rfl rfl (rp_assign rfl rfl) ?_
    refine AL.nil ?_
    try simp only [thenS, S.put]
    refine AW.seq ?_
    refine AW.region ?_
    refine AL.rp rfl rfl (rp_move rfl rfl) ?_
    refine AL.rp rfl rfl (rp_field_ref Try.underlying54 rfl rfl rfl inf3 (by decide) rfl) ?_
    refine AL.rd rfl rfl (rd_load_ref Try.underlying3 rfl rfl rfl rfl rfl rfl) ?_
    refine AL.call (post := ?pc44) rfl (sm_callv (args := [_]) ?hc44 ⟨Try.func53, rfl, rfl, rfl, rfl⟩ rfl rfl rfl rfl) ?_
    case hc44 => (refine Fn.decT (am_label _) ?_; omega)
    rintro _ rfl -
    try dsimp only
    refine AL.rp rfl rfl (rp_move rfl rfl) ?_
    refine AL.rpy rfl rfl rfl (rp_move rfl rfl) ?_
    refine AL.rpy rfl rfl rfl (rp_field_ref Try.underlying54 rfl rfl rfl inf3 (by decide) rfl) ?_
    refine AL.rdy rfl rfl rfl (rd_load_ref Try.underlying3 rfl rfl rfl rfl rfl rfl) ?_
    (refine AL.cally (post := ?pc45) rfl rfl (sm_callv (args := [_]) ?hc45 ⟨Try.func53, rfl, rfl, rfl, rfl⟩ rfl rfl rfl rfl) ?_; (case hc45 => ((refine Fn.decF (am_label _) ?_; omega))); rintro _ rfl -; try dsimp only)
    refine AL.rp rfl rfl (rp_pick rfl rfl rfl) ?_
    refine AL.rp rfl rfl (rp_move rfl rfl) ?_
    refine AL.no rfl rfl rfl rfl ?_
    refine AL.no rfl rfl rfl rfl ?_
    refine AL.no rfl rfl rfl rfl ?_
    refine AL.rp rfl rfl (rp_pick rfl rfl rfl) ?_
    refine AL.rp rfl rfl (rp_move rfl rfl) ?_
    refine AL.no rfl rfl rfl rfl ?_
    refine AL.no rfl rfl rfl rfl ?_
    refine AL.no rfl rfl rfl rfl ?_
    refine AL.rp rfl rfl (rp_pick rfl rfl rfl) ?_
    refine AL.rp rfl rfl (rp_move rfl rfl) ?_
    refine AL.no rfl rfl rfl rfl ?_
    refine AL.no rfl rfl rfl rfl ?_
    refine AL.no rfl rfl rfl rfl ?_
    refine AL.no rfl rfl rfl rfl ?_
    refine AL.rp rfl rfl (rp_pick rfl rfl rfl) ?_
    refine AL.rp rfl rfl (rp_assign rfl rfl) ?_
    refine AL.nil ?_
    try simp only [thenS, S.put, S.newObj, setL, V.cs, List.length_cons, List.length_nil, List.take_succ_cons, List.take_zero, List.drop_succ_cons, List.drop_zero, List.drop_nil, List.nil_append, List.cons_append, List.append_nil, Nat.zero_add, Nat.reduceAdd, List.map_cons, List.map_nil, List.set_cons_zero, List.set_cons_succ]
    refine AW.ret ?_
    exact ⟨[_], ⟨rfl, trivial⟩, rfl, by simp [tupOf, V.pure, V.has]⟩
  ·clear hok
   refine AW.seq ?_
   refine AW.region ?_
   refine AL.sm rfl (sm_box 2 rfl rfl rfl rfl rfl) ?_
   refine AL.rp rfl rfl (rp_assign rfl rfl) ?_
   refine AL.nil ?_
   try simp only [thenS, S.put, S.newObj, setL, V.cs, List.length_cons, List.length_nil, List.take_succ_cons, List.take_zero, List.drop_succ_cons, List.drop_zero, List.drop_nil, List.nil_append, List.cons_append, List.append_nil, Nat.zero_add, Nat.reduceAdd, List.map_cons, List.map_nil, List.set_cons_zero, List.set_cons_succ, enum]
   refine AW.seq ?_
   refine AW.region ?_
   refine AL.rp rfl rfl (rp_assign rfl rfl) ?_
   refine AL.nil ?_
   try simp only [thenS, S.put]
   refine AW.seq ?_
   refine AW.region ?_
   refine AL.rp rfl rfl (rp_move rfl rfl) ?_
   refine AL.rp rfl rfl (rp_field_ref Try.underlying54 rfl rfl rfl inf3 (by decide) rfl) ?_
   refine AL.rd rfl rfl (rd_load_ref Try.underlying3 rfl rfl rfl rfl rfl rfl) ?_
   refine AL.call (post := ?pc47) rfl (sm_callv (args := [_]) ?hc47 ⟨Try.func53, rfl, rfl, rfl, rfl⟩ rfl rfl rfl rfl) ?_
   case hc47 => (refine Fn.decF (am_label _) ?_; omega)
   rintro _ rfl -
   try dsimp only
   refine AL.rp rfl rfl (rp_move rfl rfl) ?_
   refine AL.no rfl rfl rfl rfl ?_
   refine AL.no rfl rfl rfl rfl ?_
   refine AL.no rfl rfl rfl rfl ?_
   refine AL.no rfl rfl rfl rfl ?_
   refine AL.rp rfl rfl (rp_pick rfl rfl rfl) ?_
   refine AL.rp rfl rfl (rp_move rfl rfl) ?_
   refine AL.no rfl rfl rfl rfl ?_
   refine AL.no rfl rfl rfl rfl ?_
   refine AL.no rfl rfl rfl rfl ?_
   refine AL.rp rfl rfl (rp_pick rfl rfl rfl) ?_
   refine AL.rp rfl rfl (rp_move rfl rfl) ?_
   refine AL.no rfl rfl rfl rfl ?_
   refine AL.no rfl rfl rfl rfl ?_
   refine AL.no rfl rfl rfl rfl ?_
   refine AL.rp rfl rfl (rp_pick rfl rfl rfl) ?_
   refine AL.rp rfl rfl (rp_move rfl rfl) ?_
   refine AL.no rfl rfl rfl rfl ?_
   refine AL.no rfl rfl rfl rfl ?_
   refine AL.no rfl rfl rfl rfl ?_
   refine AL.no rfl rfl rfl rfl ?_
   refine AL.rp rfl rfl (rp_pick rfl rfl rfl) ?_
   refine AL.rp rfl rfl (rp_assign rfl rfl) ?_
   refine AL.nil ?_
   try simp only [thenS, S.put, S.newObj, setL, V.cs, List.length_cons, List.length_nil, List.take_succ_cons, List.take_zero, List.drop_succ_cons, List.drop_zero, List.drop_nil, List.nil_append, List.cons_append, List.append_nil, Nat.zero_add, Nat.reduceAdd, List.map_cons, List.map_nil, List.set_cons_zero, List.set_cons_succ]
   refine AW.ret ?_
   exact ⟨[_], ⟨rfl, trivial⟩, rfl, by simp [tupOf, V.pure, V.has]⟩
theorem am_Check1 (y : Ar) (n : Int) : Fn Try.prog 29 [.agg ((arD y).map V.d), .ad [.p (.int .i64 n)]] (fun v => v = .b (!arOk n y)) := by
 refine Fn.intro (n := 8) ⟨Try.func29, rfl, rfl, rfl, rfl⟩ (by simp [V.pure, V.has, V.hasL]) (by simp) fun w0 out => ?_
 refine AW.seq ?_
 refine AW.region ?_
 refine AL.sm rfl (sm_box 2 rfl rfl rfl rfl rfl) ?_
 refine AL.rp rfl rfl (rp_assign rfl rfl) ?_
 refine AL.nil ?_
 try simp only [thenS, S.put, S.newObj, setL, V.cs, List.length_cons, List.length_nil, List.take_succ_cons, List.take_zero, List.drop_succ_cons, List.drop_zero, List.drop_nil, List.nil_append, List.cons_append, List.append_nil, Nat.zero_add, Nat.reduceAdd, List.map_cons, List.map_nil, List.set_cons_zero, List.set_cons_succ, enum]
 refine AW.seq ?_
 refine AW.region ?_
 refine AL.rd rfl rfl (rd_loads_ref Try.underlying54 rfl inf54 rfl rfl rfl rfl rfl rfl) ?_
 refine AL.rd rfl rfl (rd_load_ad Try.underlying3 rfl rfl rfl rfl) ?_
 refine AL.call (post := ?pc50) rfl (sm_call (args := [_, _]) ?hc50 ⟨Try.func30, rfl, rfl, rfl, rfl⟩ rfl rfl rfl rfl) ?_
 case hc50 => exact am_arc _ _
 rintro _ rfl -
 try dsimp only
 refine AL.rp rfl rfl (rp_not rfl rfl) ?_
 refine AL.rp rfl rfl (rp_assign rfl rfl) ?_
 refine AL.nil ?_
 try simp only [thenS, S.put, S.newObj, setL, V.cs, List.length_cons, List.length_nil, List.take_succ_cons, List.take_zero, List.drop_succ_cons, List.drop_zero, List.drop_nil, List.nil_append, List.cons_append, List.append_nil, Nat.zero_add, Nat.reduceAdd, List.map_cons, List.map_nil, List.set_cons_zero, List.set_cons_succ]
 refine AW.ret ?_
 exact ⟨[_], ⟨rfl, trivial⟩, rfl, by simp [tupOf, V.pure, V.has]⟩
theorem am_IndexFunc (l : List Ar) (n : Int) : Fn Try.prog 52 [.d (arsD l), .fn 29 [.ad [.p (.int .i64 n)]]] (fun v => ∃ i : Int, v = .i i ∧ (decide (0 ≤ i) = !l.all (arOk n))) := by
 refine Fn.sl 0 rfl fun hb => ?_
 obtain ⟨len, hn⟩ : ∃ n, l.length = n := ⟨_, rfl⟩
 rw [List.length_map, hn] at hb
 refine Fn.intro (n := 19) ⟨Try.func52, rfl, rfl, rfl, rfl⟩ (by simp [V.pure, V.has, V.hasL]) (by simp) fun w0 out => ?_
 refine AW.seq ?_
 refine AW.region ?_
 refine AL.rp rfl rfl (rp_assign rfl rfl) ?_
 refine AL.nil ?_
 try simp only [thenS, S.put, enum, List.nil_append, List.cons_append, List.append_nil, Nat.zero_add, Nat.reduceAdd]
 refine AW.seq ?_
 refine AW.seq ?_
 refine AW.region ?_
 refine AL.rp rfl rfl (rp_move rfl rfl) ?_
 refine AL.rp rfl rfl (rp_len_map Try.underlying48 rfl rfl (by assumption)) ?_
 refine AL.rp rfl rfl (rp_move rfl rfl) ?_
 refine AL.nil ?_
 try simp only [thenS, S.put]
 refine AW.block ?_
 refine AW.loop (fun s' => ∃ k : Nat, k ≤ len ∧ (l.take k).all (arOk n) = true ∧ s' = ⟨19, [(0, .d (arsD l)), (1, .fn 29 [.ad [.p (.int .i64 n)]]), (7, .i len), (8, .i k)], [], []⟩) (fun s' => len - s'.nat 8) ⟨_, ?_, 0, by omega, by simp, rfl⟩ ?_
 ·exact (Less.of rfl (by repeat (first | exact trivial | refine ⟨⟨_, rfl, Wk.refl _⟩, ?_⟩ | refine ⟨⟨_, rfl, Wk.nil _ _⟩, ?_⟩ | refine ⟨⟨_, rfl, Wk.junk _⟩, ?_⟩)) (by repeat (first | exact trivial | refine ⟨rfl, ?_⟩)) rfl)
 rintro s' ⟨k, hk, hall, rfl⟩
 by_cases hlt : k < len
 ·obtain ⟨x, hx⟩ := get_lt hn hlt
  by_cases hok : arOk n x = true
  ·skip
   refine AW.seq ?_
   refine AW.region ?_
   (refine AL.rp rfl rfl (rp_lssT rfl rfl rfl (by first | assumption | omega | (dsimp only; omega))) ?_)
   refine AL.nil ?_
   try simp only [thenS, S.put]
   refine AW.seq ?_
   refine AW.condT rfl ?_
   refine AW.skip ?_
   try simp only [thenS]
   refine AW.seq ?_
   refine AW.block ?_
   refine AW.seq ?_
   refine AW.region ?_
   refine AL.rp rfl rfl (rp_move rfl rfl) ?_
   refine AL.rp rfl rfl (rp_assign rfl rfl) ?_
   refine AL.nil ?_
   try simp only [thenS, S.put]
   refine AW.seq ?_
   refine AW.region ?_
   refine AL.rp rfl rfl (rp_move rfl rfl) ?_
   refine AL.rp rfl rfl (rp_move rfl rfl) ?_
   refine AL.rp rfl rfl (rp_move rfl rfl) ?_
   refine AL.rp rfl rfl (rp_index_map Try.underlying48 inf54 rfl rfl rfl rfl (by assumption)) ?_
   refine AL.rd rfl rfl (rd_loads_ad Try.underlying54 rfl inf54 rfl rfl rfl rfl) ?_
   refine AL.call (post := ?pc51) rfl (sm_callv (args := [_]) ?hc51 ⟨Try.func29, rfl, rfl, rfl, rfl⟩ rfl rfl rfl rfl) ?_
   case hc51 => exact (am_Check1 _ _)
   rintro _ rfl -
   try dsimp only
   refine AL.nil ?_
   try simp only [thenS, S.put, S.newObj, setL, V.cs, List.length_cons, List.length_nil, List.take_succ_cons, List.take_zero, List.drop_succ_cons, List.drop_zero, List.drop_nil, List.nil_append, List.cons_append, List.append_nil, Nat.zero_add, Nat.reduceAdd, List.map_cons, List.map_nil, List.set_cons_zero, List.set_cons_succ]
   simp only [hok, Bool.not_true]
   refine AW.condF rfl ?_
   refine AW.skip ?_
   try simp only [thenS]
   refine AW.region ?_
   refine AL.rp rfl rfl (rp_add rfl rfl rfl (by first | omega | (dsimp only; omega))) ?_
   refine AL.rp rfl rfl (rp_move rfl rfl) ?_
   refine AL.nil ?_
   try simp only [thenS, S.put]
   refine ⟨_, ?_, ⟨k + 1, by omega, all_snoc' hx hall hok, rfl⟩, ?_⟩
   ·exact (Less.of rfl (by repeat (first | exact trivial | refine ⟨⟨_, rfl, Wk.refl _⟩, ?_⟩ | refine ⟨⟨_, rfl, Wk.nil _ _⟩, ?_⟩ | refine ⟨⟨_, rfl, Wk.junk _⟩, ?_⟩)) (by repeat (first | exact trivial | refine ⟨rfl, ?_⟩)) rfl)
   ·simp [S.nat, fnd]; omega
  ·have hok' : arOk n x = false := by simpa using hok
   have hal : l.all (arOk n) = false := all_not hx hok'
   refine AW.seq ?_
   refine AW.region ?_
   (refine AL.rp rfl rfl (rp_lssT rfl rfl rfl (by first | assumption | omega | (dsimp only; omega))) ?_)
   refine AL.nil ?_
   try simp only [thenS, S.put]
   refine AW.seq ?_
   refine AW.condT rfl ?_
   refine AW.skip ?_
   try simp only [thenS]
   refine AW.seq ?_
   refine AW.block ?_
   refine AW.seq ?_
   refine AW.region ?_
   refine AL.rp rfl rfl (rp_move rfl rfl) ?_
   refine AL.rp rfl rfl (rp_assign rfl rfl) ?_
   refine AL.nil ?_
   try simp only [thenS, S.put]
   refine AW.seq ?_
   refine AW.region ?_
   refine AL.rp rfl rfl (rp_move rfl rfl) ?_
   refine AL.rp rfl rfl (rp_move rfl rfl) ?_
   refine AL.rp rfl rfl (rp_move rfl rfl) ?_
   refine AL.rp rfl rfl (rp_index_map Try.underlying48 inf54 rfl rfl rfl rfl (by assumption)) ?_
   refine AL.rd rfl rfl (rd_loads_ad Try.underlying54 rfl inf54 rfl rfl rfl rfl) ?_
   refine AL.call (post := ?pc52) rfl (sm_callv (args := [_]) ?hc52 ⟨Try.func29, rfl, rfl, rfl, rfl⟩ rfl rfl rfl rfl) ?_
   case hc52 => exact (am_Check1 _ _)
   rintro _ rfl -
   try dsimp only
   refine AL.nil ?_
   try simp only [thenS, S.put, S.newObj, setL, V.cs, List.length_cons, List.length_nil, List.take_succ_cons, List.take_zero, List.drop_succ_cons, List.drop_zero, List.drop_nil, List.nil_append, List.cons_append, List.append_nil, Nat.zero_add, Nat.reduceAdd, List.map_cons, List.map_nil, List.set_cons_zero, List.set_cons_succ]
   simp only [hok', Bool.not_false]
   refine AW.condT rfl ?_
   refine AW.seq ?_
   refine AW.region ?_
   refine AL.rp rfl rfl (rp_move rfl rfl) ?_
   refine AL.rp rfl rfl (rp_assign rfl rfl) ?_
   refine AL.nil ?_
   try simp only [thenS, S.put]
   refine AW.ret ?_
   exact ⟨[_], ⟨rfl, trivial⟩, ⟨k, rfl, by simp [hal]⟩, by simp [tupOf, V.pure, V.has]⟩
 ·have hA : l.all (arOk n) = true := by rwa [List.take_of_length_le (by omega)] at hall
  refine AW.seq ?_
  refine AW.region ?_
  (refine AL.rp rfl rfl (rp_lssF rfl rfl rfl (by first | assumption | omega | (dsimp only; omega))) ?_)
  refine AL.nil ?_
  try simp only [thenS, S.put]
  refine AW.seq ?_
  refine AW.condF rfl ?_
  refine AW.exit ?_
  try simp only [thenS, inBlockS, ↓reduceIte, Nat.reduceEqDiff]
  refine AW.seq ?_
  refine AW.region ?_
  refine AL.rp rfl rfl (rp_assign rfl rfl) ?_
  refine AL.nil ?_
  try simp only [thenS, S.put]
  refine AW.ret ?_
  exact ⟨[_], ⟨rfl, trivial⟩, ⟨-1, rfl, by simp [hA]⟩, by simp [tupOf, V.pure, V.has]⟩
theorem am_ContainsFunc (l : List Ar) (n : Int) : Fn Try.prog 28 [.d (arsD l), .fn 29 [.ad [.p (.int .i64 n)]]] (fun v => v = .b (!l.all (arOk n))) := by
 refine Fn.intro (n := 9) ⟨Try.func28, rfl, rfl, rfl, rfl⟩ (by simp [V.pure, V.has, V.hasL]) (by simp) fun w0 out => ?_
 refine AW.seq ?_
 refine AW.region ?_
 refine AL.rp rfl rfl (rp_assign rfl rfl) ?_
 refine AL.nil ?_
 try simp only [thenS, S.put, enum, List.nil_append, List.cons_append, List.append_nil, Nat.zero_add, Nat.reduceAdd]
 refine AW.seq ?_
 refine AW.region ?_
 refine AL.rp rfl rfl (rp_move rfl rfl) ?_
 refine AL.rp rfl rfl (rp_move rfl rfl) ?_
 refine AL.call (post := ?pc53) rfl (sm_call (args := [_, _]) ?hc53 ⟨Try.func52, rfl, rfl, rfl, rfl⟩ rfl rfl rfl rfl) ?_
 case hc53 => exact am_IndexFunc _ _
 rintro _ ⟨i, rfl, hi⟩ -
 try dsimp only
 refine AL.rp rfl rfl (rp_geq rfl rfl rfl) ?_
 refine AL.rp rfl rfl (rp_assign rfl rfl) ?_
 refine AL.nil ?_
 try simp only [thenS, S.put, S.newObj, setL, V.cs, List.length_cons, List.length_nil, List.take_succ_cons, List.take_zero, List.drop_succ_cons, List.drop_zero, List.drop_nil, List.nil_append, List.cons_append, List.append_nil, Nat.zero_add, Nat.reduceAdd, List.map_cons, List.map_nil, List.set_cons_zero, List.set_cons_succ]
 refine AW.ret ?_
 exact ⟨[_], ⟨rfl, trivial⟩, by rw [← hi]; rfl, by simp [tupOf, V.pure, V.has]⟩

theorem am_Check (m : Mach) : Fn Try.prog 10 [mV m] (fun v => v = .i (machE m)) := by
 refine Fn.mach m 0 rfl fun hsl hal => ?_
 obtain ⟨st, sts⟩ := m
 simp only at hsl hal ⊢
 obtain ⟨len, hl⟩ : ∃ n, sts.length = n := ⟨_, rfl⟩
 rw [hl] at hsl
 refine Fn.intro (n := 59) ⟨Try.func10, rfl, rfl, rfl, rfl⟩ (by simp [V.pure, V.has, V.hasL]) (by simp) fun w0 out => ?_
 by_cases h60 : 60 < len
 ·skip
  refine AW.seq ?_
  refine AW.region ?_
  refine AL.sm rfl (sm_box 1 rfl rfl rfl rfl rfl) ?_
  refine AL.rp rfl rfl (rp_assign rfl rfl) ?_
  refine AL.nil ?_
  try simp only [thenS, S.put, S.newObj, setL, V.cs, List.length_cons, List.length_nil, List.take_succ_cons, List.take_zero, List.drop_succ_cons, List.drop_zero, List.drop_nil, List.nil_append, List.cons_append, List.append_nil, Nat.zero_add, Nat.reduceAdd, List.map_cons, List.map_nil, List.set_cons_zero, List.set_cons_succ, enum]
  refine AW.seq ?_
  refine AW.region ?_
  refine AL.rp rfl rfl (rp_field_ref Try.underlying24 rfl rfl rfl inf22 (by decide) rfl) ?_
  refine AL.rd rfl rfl (rd_load_ref Try.underlying22 rfl rfl rfl rfl rfl rfl) ?_
  refine AL.rp rfl rfl (rp_len_map Try.underlying22 rfl rfl (by assumption)) ?_
  refine AL.sm rfl (sm_alloc (l := [.d (.p (.int .i64 0))]) 3 inf3 rfl rfl rfl rfl) ?_
  (refine AL.st rfl (st_store inf3 rfl rfl rfl rfl rfl rfl rfl (by first | decide | (simp; done)) rfl) ?_)
  refine AL.rp rfl rfl (rp_assign rfl rfl) ?_
  refine AL.nil ?_
  try simp only [thenS, S.put, S.newObj, setL, V.cs, List.length_cons, List.length_nil, List.take_succ_cons, List.take_zero, List.drop_succ_cons, List.drop_zero, List.drop_nil, List.nil_append, List.cons_append, List.append_nil, Nat.zero_add, Nat.reduceAdd, List.map_cons, List.map_nil, List.set_cons_zero, List.set_cons_succ]
  refine AW.seq ?_
  refine AW.seq ?_
  refine AW.region ?_
  refine AL.rd rfl rfl (rd_load_ref Try.underlying3 rfl rfl rfl rfl rfl rfl) ?_
  (refine AL.rp rfl rfl (rp_gtrT rfl rfl rfl (by first | assumption | omega | (dsimp only; omega))) ?_)
  refine AL.nil ?_
  try simp only [thenS, S.put]
  refine AW.condT rfl ?_
  refine AW.seq ?_
  refine AW.region ?_
  refine AL.rp rfl rfl (rp_assign rfl rfl) ?_
  refine AL.nil ?_
  try simp only [thenS, S.put]
  refine AW.ret ?_
  exact ⟨[_], ⟨rfl, trivial⟩, by rw [machE_size (.inl (by rw [hl]; exact h60))]; rfl, by simp [tupOf, V.pure, V.has]⟩
 ·skip
  refine AW.seq ?_
  refine AW.region ?_
  refine AL.sm rfl (sm_box 1 rfl rfl rfl rfl rfl) ?_
  refine AL.rp rfl rfl (rp_assign rfl rfl) ?_
  refine AL.nil ?_
  try simp only [thenS, S.put, S.newObj, setL, V.cs, List.length_cons, List.length_nil, List.take_succ_cons, List.take_zero, List.drop_succ_cons, List.drop_zero, List.drop_nil, List.nil_append, List.cons_append, List.append_nil, Nat.zero_add, Nat.reduceAdd, List.map_cons, List.map_nil, List.set_cons_zero, List.set_cons_succ, enum]
  refine AW.seq ?_
  refine AW.region ?_
  refine AL.rp rfl rfl (rp_field_ref Try.underlying24 rfl rfl rfl inf22 (by decide) rfl) ?_
  refine AL.rd rfl rfl (rd_load_ref Try.underlying22 rfl rfl rfl rfl rfl rfl) ?_
  refine AL.rp rfl rfl (rp_len_map Try.underlying22 rfl rfl (by assumption)) ?_
  refine AL.sm rfl (sm_alloc (l := [.d (.p (.int .i64 0))]) 3 inf3 rfl rfl rfl rfl) ?_
  (refine AL.st rfl (st_store inf3 rfl rfl rfl rfl rfl rfl rfl (by first | decide | (simp; done)) rfl) ?_)
  refine AL.rp rfl rfl (rp_assign rfl rfl) ?_
  refine AL.nil ?_
  try simp only [thenS, S.put, S.newObj, setL, V.cs, List.length_cons, List.length_nil, List.take_succ_cons, List.take_zero, List.drop_succ_cons, List.drop_zero, List.drop_nil, List.nil_append, List.cons_append, List.append_nil, Nat.zero_add, Nat.reduceAdd, List.map_cons, List.map_nil, List.set_cons_zero, List.set_cons_succ]
  refine AW.seq ?_
  refine AW.seq ?_
  refine AW.region ?_
  refine AL.rd rfl rfl (rd_load_ref Try.underlying3 rfl rfl rfl rfl rfl rfl) ?_
  (refine AL.rp rfl rfl (rp_gtrF rfl rfl rfl (by first | assumption | omega | (dsimp only; omega))) ?_)
  refine AL.nil ?_
  try simp only [thenS, S.put]
  refine AW.condF rfl ?_
  refine AW.skip ?_
  try simp only [thenS]
  refine AW.seq ?_
  refine AW.seq ?_
  refine AW.region ?_
  refine AL.rp rfl rfl (rp_field_ref Try.underlying24 rfl rfl rfl inf22 (by decide) rfl) ?_
  refine AL.rd rfl rfl (rd_load_ref Try.underlying22 rfl rfl rfl rfl rfl rfl) ?_
  refine AL.rp rfl rfl (rp_len_map Try.underlying22 rfl rfl (by assumption)) ?_
  refine AL.rp rfl rfl (rp_move rfl rfl) ?_
  refine AL.nil ?_
  try simp only [thenS, S.put]
  refine AW.block ?_
  refine AW.loop (fun s' => ∃ k : Nat, k ≤ len ∧ arcN (sts.take k) ≤ k * 4398046511104 ∧ s' = ⟨59, [(1, .ref 1 0), (3, .ref 3 0), (4, .i (arcN (sts.take k))), (15, .d (stsD sts)), (16, .i len), (17, .i k)], [(1, ⟨24, [.i st, .d (stsD sts)], false, 0⟩), (3, ⟨3, [.i len], false, 0⟩)], []⟩) (fun s' => len - s'.nat 17) ⟨_, ?_, 0, by omega, by simp [arcN], rfl⟩ ?_
  ·exact (Less.of rfl (by repeat (first | exact trivial | refine ⟨⟨_, rfl, Wk.refl _⟩, ?_⟩ | refine ⟨⟨_, rfl, Wk.nil _ _⟩, ?_⟩ | refine ⟨⟨_, rfl, Wk.junk _⟩, ?_⟩)) (by repeat (first | exact trivial | refine ⟨rfl, ?_⟩)) rfl)
  rintro s' ⟨k, hk, hs, rfl⟩
  by_cases hlt : k < len
  ·obtain ⟨x, hx⟩ := get_lt hl hlt
   obtain ⟨la, hla⟩ : ∃ n, x.arcs.length = n := ⟨_, rfl⟩
   have hla' := hal x (List.mem_of_getElem? hx)
   have hsn : arcN (sts.take (k + 1)) = arcN (sts.take k) + la := by rw [take_snoc hx, arcN_snoc, hla]
   refine AW.seq ?_
   refine AW.region ?_
   (refine AL.rp rfl rfl (rp_lssT rfl rfl rfl (by first | assumption | omega | (dsimp only; omega))) ?_)
   refine AL.nil ?_
   try simp only [thenS, S.put]
   refine AW.seq ?_
   refine AW.condT rfl ?_
   refine AW.skip ?_
   try simp only [thenS]
   refine AW.seq ?_
   refine AW.block ?_
   refine AW.seq ?_
   refine AW.region ?_
   refine AL.rp rfl rfl (rp_index_map Try.underlying22 inf50 rfl rfl rfl rfl (by assumption)) ?_
   refine AL.rd rfl rfl (rd_loads_ad Try.underlying50 rfl inf50 rfl rfl rfl rfl) ?_
   refine AL.sm rfl (sm_alloc (l := [.d (.p (.int .i64 0)), .d (.p (.slice none 0 0))]) 6 inf50 rfl rfl rfl rfl) ?_
   refine AL.st rfl (st_store_any inf50 rfl rfl rfl rfl rfl rfl rfl rfl (by first | decide | (simp; done) | (simp; omega)) rfl) ?_
   refine AL.nil ?_
   try simp only [thenS, S.put, S.newObj, setL, V.cs, List.length_cons, List.length_nil, List.take_succ_cons, List.take_zero, List.drop_succ_cons, List.drop_zero, List.drop_nil, List.nil_append, List.cons_append, List.append_nil, Nat.zero_add, Nat.reduceAdd, List.map_cons, List.map_nil, List.set_cons_zero, List.set_cons_succ]
   refine AW.region ?_
   refine AL.rp rfl rfl (rp_move rfl rfl) ?_
   refine AL.rp rfl rfl (rp_field_ref Try.underlying50 rfl rfl rfl inf48 (by decide) rfl) ?_
   refine AL.rd rfl rfl (rd_load_ref Try.underlying48 rfl rfl rfl rfl rfl rfl) ?_
   refine AL.rp rfl rfl (rp_len_map Try.underlying48 rfl rfl (by assumption)) ?_
   refine AL.rp rfl rfl (rp_add rfl rfl rfl (by first | omega | (dsimp only; omega))) ?_
   refine AL.rp rfl rfl (rp_assign rfl rfl) ?_
   refine AL.nil ?_
   try simp only [thenS, S.put]
   refine AW.region ?_
   refine AL.rp rfl rfl (rp_add rfl rfl rfl (by first | omega | (dsimp only; omega))) ?_
   refine AL.rp rfl rfl (rp_move rfl rfl) ?_
   refine AL.nil ?_
   try simp only [thenS, S.put]
   refine ⟨_, ?_, ⟨k + 1, by omega, by omega, rfl⟩, ?_⟩
   ·rw [hsn]; exact (Less.of rfl (by repeat (first | exact trivial | refine ⟨⟨_, rfl, Wk.refl _⟩, ?_⟩ | refine ⟨⟨_, rfl, Wk.nil _ _⟩, ?_⟩ | refine ⟨⟨_, rfl, Wk.junk _⟩, ?_⟩)) (by repeat (first | exact trivial | refine ⟨rfl, ?_⟩)) rfl)
   ·simp [S.nat, fnd]; omega
  ·rw [arcN_full hl hlt]
   by_cases h400 : 400 < arcN sts
   ·skip
    refine AW.seq ?_
    refine AW.region ?_
    (refine AL.rp rfl rfl (rp_lssF rfl rfl rfl (by first | assumption | omega | (dsimp only; omega))) ?_)
    refine AL.nil ?_
    try simp only [thenS, S.put]
    refine AW.seq ?_
    refine AW.condF rfl ?_
    refine AW.exit ?_
    try simp only [thenS, inBlockS, ↓reduceIte, Nat.reduceEqDiff]
    refine AW.seq ?_
    refine AW.seq ?_
    refine AW.region ?_
    refine AL.rp rfl rfl (rp_move rfl rfl) ?_
    (refine AL.rp rfl rfl (rp_gtrT rfl rfl rfl (by first | assumption | omega | (dsimp only; omega))) ?_)
    refine AL.nil ?_
    try simp only [thenS, S.put]
    refine AW.condT rfl ?_
    refine AW.seq ?_
    refine AW.region ?_
    refine AL.rp rfl rfl (rp_assign rfl rfl) ?_
    refine AL.nil ?_
    try simp only [thenS, S.put]
    refine AW.ret ?_
    exact ⟨[_], ⟨rfl, trivial⟩, by rw [machE_size (.inr h400)]; rfl, by simp [tupOf, V.pure, V.has]⟩
   ·by_cases hst : -1 ≤ st
    ·by_cases hst2 : st < (len : Int)
     ·skip
      refine AW.seq ?_
      refine AW.region ?_
      (refine AL.rp rfl rfl (rp_lssF rfl rfl rfl (by first | assumption | omega | (dsimp only; omega))) ?_)
      refine AL.nil ?_
      try simp only [thenS, S.put]
      refine AW.seq ?_
      refine AW.condF rfl ?_
      refine AW.exit ?_
      try simp only [thenS, inBlockS, ↓reduceIte, Nat.reduceEqDiff]
      refine AW.seq ?_
      refine AW.seq ?_
      refine AW.region ?_
      refine AL.rp rfl rfl (rp_move rfl rfl) ?_
      (refine AL.rp rfl rfl (rp_gtrF rfl rfl rfl (by first | assumption | omega | (dsimp only; omega))) ?_)
      refine AL.nil ?_
      try simp only [thenS, S.put]
      refine AW.condF rfl ?_
      refine AW.skip ?_
      try simp only [thenS]
      refine AW.seq ?_
      refine AW.seq ?_
      refine AW.region ?_
      refine AL.rp rfl rfl (rp_field_ref Try.underlying24 rfl rfl rfl inf3 (by decide) rfl) ?_
      refine AL.rd rfl rfl (rd_load_ref Try.underlying3 rfl rfl rfl rfl rfl rfl) ?_
      (refine AL.rp rfl rfl (rp_lssF rfl rfl rfl (by first | assumption | omega | (dsimp only; omega))) ?_)
      refine AL.rp rfl rfl (rp_move rfl rfl) ?_
      refine AL.rpy rfl rfl rfl (rp_field_ref Try.underlying24 rfl rfl rfl inf3 (by decide) rfl) ?_
      refine AL.rdy rfl rfl rfl (rd_load_ref Try.underlying3 rfl rfl rfl rfl rfl rfl) ?_
      refine AL.rdy rfl rfl rfl (rd_load_ref Try.underlying3 rfl rfl rfl rfl rfl rfl) ?_
      (refine AL.rpy rfl rfl rfl (rp_geqF rfl rfl rfl (by first | assumption | omega | (dsimp only; omega))) ?_)
      refine AL.rp rfl rfl (rp_pick rfl rfl rfl) ?_
      refine AL.nil ?_
      try simp only [thenS, S.put]
      refine AW.condF rfl ?_
      refine AW.skip ?_
      try simp only [thenS]
      refine AW.seq ?_
      refine AW.seq ?_
      refine AW.region ?_
      refine AL.rp rfl rfl (rp_field_ref Try.underlying24 rfl rfl rfl inf22 (by decide) rfl) ?_
      refine AL.rd rfl rfl (rd_load_ref Try.underlying22 rfl rfl rfl rfl rfl rfl) ?_
      refine AL.rp rfl rfl (rp_len_map Try.underlying22 rfl rfl (by assumption)) ?_
      refine AL.rp rfl rfl (rp_move rfl rfl) ?_
      refine AL.nil ?_
      try simp only [thenS, S.put]
      refine AW.block ?_
      refine AW.loop (fun s' => ∃ k : Nat, k ≤ len ∧ (sts.take k).all (stOk len) = true ∧ s' = ⟨59, [(1, .ref 1 0), (3, .ref 3 0), (39, .d (stsD sts)), (40, .i len), (41, .i k)], [(1, ⟨24, [.i st, .d (stsD sts)], false, 0⟩), (3, ⟨3, [.i len], false, 0⟩)], []⟩) (fun s' => len - s'.nat 41) ⟨_, ?_, 0, by omega, by simp, rfl⟩ ?_
      ·exact (Less.of rfl (by repeat (first | exact trivial | refine ⟨⟨_, rfl, Wk.refl _⟩, ?_⟩ | refine ⟨⟨_, rfl, Wk.nil _ _⟩, ?_⟩ | refine ⟨⟨_, rfl, Wk.junk _⟩, ?_⟩)) (by repeat (first | exact trivial | refine ⟨rfl, ?_⟩)) rfl)
      clear hlt hk hs k
      rintro s' ⟨k, hk, hall, rfl⟩
      by_cases hlt : k < len
      ·obtain ⟨x, hx⟩ := get_lt hl hlt
       by_cases hf : 0 ≤ x.fin ∧ x.fin ≤ 1000000001
       ·have hf1 : finOk x.fin = true := by simp [finOk]; omega
        by_cases hA : x.arcs.all (arOk len) = true
        ·by_cases hf2 : 0 ≤ x.fin ∧ x.fin ≤ 1000000000
         ·skip
          refine AW.seq ?_
          refine AW.region ?_
          (refine AL.rp rfl rfl (rp_lssT rfl rfl rfl (by first | assumption | omega | (dsimp only; omega))) ?_)
          refine AL.nil ?_
          try simp only [thenS, S.put]
          refine AW.seq ?_
          refine AW.condT rfl ?_
          refine AW.skip ?_
          try simp only [thenS]
          refine AW.seq ?_
          refine AW.block ?_
          refine AW.seq ?_
          refine AW.region ?_
          refine AL.rp rfl rfl (rp_index_map Try.underlying22 inf50 rfl rfl rfl rfl (by assumption)) ?_
          refine AL.rd rfl rfl (rd_loads_ad Try.underlying50 rfl inf50 rfl rfl rfl rfl) ?_
          refine AL.sm rfl (sm_alloc (l := [.d (.p (.int .i64 0)), .d (.p (.slice none 0 0))]) 8 inf50 rfl rfl rfl rfl) ?_
          refine AL.st rfl (st_store_any inf50 rfl rfl rfl rfl rfl rfl rfl rfl (by first | decide | (simp; done) | (simp; omega)) rfl) ?_
          refine AL.nil ?_
          try simp only [thenS, S.put, S.newObj, setL, V.cs, List.length_cons, List.length_nil, List.take_succ_cons, List.take_zero, List.drop_succ_cons, List.drop_zero, List.drop_nil, List.nil_append, List.cons_append, List.append_nil, Nat.zero_add, Nat.reduceAdd, List.map_cons, List.map_nil, List.set_cons_zero, List.set_cons_succ]
          refine AW.seq ?_
          refine AW.seq ?_
          refine AW.region ?_
          refine AL.rp rfl rfl (rp_field_ref Try.underlying50 rfl rfl rfl inf3 (by decide) rfl) ?_
          refine AL.rd rfl rfl (rd_load_ref Try.underlying3 rfl rfl rfl rfl rfl rfl) ?_
          refine AL.call (post := ?pc54) rfl (sm_call (args := [_]) ?hc54 ⟨Try.func27, rfl, rfl, rfl, rfl⟩ rfl rfl rfl rfl) ?_
          case hc54 => first | (refine Fn.decT (am_weight _) ?_; omega) | (refine Fn.decF (am_weight _) ?_; omega) | exact am_weight _
          rintro _ rfl -
          try dsimp only
          refine AL.rp rfl rfl (rp_not rfl rfl) ?_
          refine AL.rp rfl rfl (rp_move rfl rfl) ?_
          refine AL.no rfl rfl rfl rfl ?_
          refine AL.no rfl rfl rfl rfl ?_
          refine AL.no rfl rfl rfl rfl ?_
          refine AL.rp rfl rfl (rp_pick rfl rfl rfl) ?_
          refine AL.nil ?_
          try simp only [thenS, S.put, S.newObj, setL, V.cs, List.length_cons, List.length_nil, List.take_succ_cons, List.take_zero, List.drop_succ_cons, List.drop_zero, List.drop_nil, List.nil_append, List.cons_append, List.append_nil, Nat.zero_add, Nat.reduceAdd, List.map_cons, List.map_nil, List.set_cons_zero, List.set_cons_succ]
          refine AW.condF rfl ?_
          refine AW.skip ?_
          try simp only [thenS]
          refine AW.seq ?_
          refine AW.region ?_
          refine AL.rp rfl rfl (rp_field_ref Try.underlying50 rfl rfl rfl inf48 (by decide) rfl) ?_
          refine AL.rd rfl rfl (rd_load_ref Try.underlying48 rfl rfl rfl rfl rfl rfl) ?_
          refine AL.rp rfl rfl (rp_func (vs := [_]) rfl rfl) ?_
          refine AL.call (post := ?pc55) rfl (sm_callr (args := ?ac55) (us := [_, _]) ?hc55 ?qc55 ⟨Try.func28, rfl, rfl, rfl, rfl⟩ rfl rfl rfl ?rc55 rfl) ?_
          case hc55 => exact am_ContainsFunc x.arcs len
          case qc55 => (intro v hv; first | (subst hv; first | trivial | (simp [V.plain]; done)) | (obtain ⟨_, rfl, _⟩ := hv; first | trivial | (simp [V.plain]; done)))
          case rc55 => exact .cons (.refl _ (by simp [V.pure, V.has])) (.cons (Ro.fns (.cons (.ref 3 0 _ [.p (.int .i64 len)] rfl rfl rfl) .nil)) .nil)
          rintro _ rfl -
          try dsimp only
          refine AL.nil ?_
          try simp only [thenS, S.put, S.newObj, setL, V.cs, List.length_cons, List.length_nil, List.take_succ_cons, List.take_zero, List.drop_succ_cons, List.drop_zero, List.drop_nil, List.nil_append, List.cons_append, List.append_nil, Nat.zero_add, Nat.reduceAdd, List.map_cons, List.map_nil, List.set_cons_zero, List.set_cons_succ]
          simp only [hA, Bool.not_true]
          refine AW.condF rfl ?_
          refine AW.skip ?_
          try simp only [thenS]
          refine AW.region ?_
          refine AL.rp rfl rfl (rp_add rfl rfl rfl (by first | omega | (dsimp only; omega))) ?_
          refine AL.rp rfl rfl (rp_move rfl rfl) ?_
          refine AL.nil ?_
          try simp only [thenS, S.put]
          refine ⟨_, ?_, ⟨k + 1, by omega, all_snoc' hx hall (stOk_yes hf1 hA), rfl⟩, ?_⟩
          ·exact (Less.of rfl (by repeat (first | exact trivial | refine ⟨⟨_, rfl, Wk.refl _⟩, ?_⟩ | refine ⟨⟨_, rfl, Wk.nil _ _⟩, ?_⟩ | refine ⟨⟨_, rfl, Wk.junk _⟩, ?_⟩)) (by repeat (first | exact trivial | refine ⟨rfl, ?_⟩)) rfl)
          ·simp [S.nat, fnd]; omega
         ·skip
          refine AW.seq ?_
          refine AW.region ?_
          (refine AL.rp rfl rfl (rp_lssT rfl rfl rfl (by first | assumption | omega | (dsimp only; omega))) ?_)
          refine AL.nil ?_
          try simp only [thenS, S.put]
          refine AW.seq ?_
          refine AW.condT rfl ?_
          refine AW.skip ?_
          try simp only [thenS]
          refine AW.seq ?_
          refine AW.block ?_
          refine AW.seq ?_
          refine AW.region ?_
          refine AL.rp rfl rfl (rp_index_map Try.underlying22 inf50 rfl rfl rfl rfl (by assumption)) ?_
          refine AL.rd rfl rfl (rd_loads_ad Try.underlying50 rfl inf50 rfl rfl rfl rfl) ?_
          refine AL.sm rfl (sm_alloc (l := [.d (.p (.int .i64 0)), .d (.p (.slice none 0 0))]) 8 inf50 rfl rfl rfl rfl) ?_
          refine AL.st rfl (st_store_any inf50 rfl rfl rfl rfl rfl rfl rfl rfl (by first | decide | (simp; done) | (simp; omega)) rfl) ?_
          refine AL.nil ?_
          try simp only [thenS, S.put, S.newObj, setL, V.cs, List.length_cons, List.length_nil, List.take_succ_cons, List.take_zero, List.drop_succ_cons, List.drop_zero, List.drop_nil, List.nil_append, List.cons_append, List.append_nil, Nat.zero_add, Nat.reduceAdd, List.map_cons, List.map_nil, List.set_cons_zero, List.set_cons_succ]
          refine AW.seq ?_
          refine AW.seq ?_
          refine AW.region ?_
          refine AL.rp rfl rfl (rp_field_ref Try.underlying50 rfl rfl rfl inf3 (by decide) rfl) ?_
          refine AL.rd rfl rfl (rd_load_ref Try.underlying3 rfl rfl rfl rfl rfl rfl) ?_
          refine AL.call (post := ?pc56) rfl (sm_call (args := [_]) ?hc56 ⟨Try.func27, rfl, rfl, rfl, rfl⟩ rfl rfl rfl rfl) ?_
          case hc56 => first | (refine Fn.decT (am_weight _) ?_; omega) | (refine Fn.decF (am_weight _) ?_; omega) | exact am_weight _
          rintro _ rfl -
          try dsimp only
          refine AL.rp rfl rfl (rp_not rfl rfl) ?_
          refine AL.rp rfl rfl (rp_move rfl rfl) ?_
          refine AL.rpy rfl rfl rfl (rp_field_ref Try.underlying50 rfl rfl rfl inf3 (by decide) rfl) ?_
          refine AL.rdy rfl rfl rfl (rd_load_ref Try.underlying3 rfl rfl rfl rfl rfl rfl) ?_
          (refine AL.rpy rfl rfl rfl (rp_neqF rfl rfl rfl (by first | assumption | omega | (dsimp only; omega))) ?_)
          refine AL.rp rfl rfl (rp_pick rfl rfl rfl) ?_
          refine AL.nil ?_
          try simp only [thenS, S.put, S.newObj, setL, V.cs, List.length_cons, List.length_nil, List.take_succ_cons, List.take_zero, List.drop_succ_cons, List.drop_zero, List.drop_nil, List.nil_append, List.cons_append, List.append_nil, Nat.zero_add, Nat.reduceAdd, List.map_cons, List.map_nil, List.set_cons_zero, List.set_cons_succ]
          refine AW.condF rfl ?_
          refine AW.skip ?_
          try simp only [thenS]
          refine AW.seq ?_
          refine AW.region ?_
          refine AL.rp rfl rfl (rp_field_ref Try.underlying50 rfl rfl rfl inf48 (by decide) rfl) ?_
          refine AL.rd rfl rfl (rd_load_ref Try.underlying48 rfl rfl rfl rfl rfl rfl) ?_
          refine AL.rp rfl rfl (rp_func (vs := [_]) rfl rfl) ?_
          refine AL.call (post := ?pc57) rfl (sm_callr (args := ?ac57) (us := [_, _]) ?hc57 ?qc57 ⟨Try.func28, rfl, rfl, rfl, rfl⟩ rfl rfl rfl ?rc57 rfl) ?_
          case hc57 => exact am_ContainsFunc x.arcs len
          case qc57 => (intro v hv; first | (subst hv; first | trivial | (simp [V.plain]; done)) | (obtain ⟨_, rfl, _⟩ := hv; first | trivial | (simp [V.plain]; done)))
          case rc57 => exact .cons (.refl _ (by simp [V.pure, V.has])) (.cons (Ro.fns (.cons (.ref 3 0 _ [.p (.int .i64 len)] rfl rfl rfl) .nil)) .nil)
          rintro _ rfl -
          try dsimp only
          refine AL.nil ?_
          try simp only [thenS, S.put, S.newObj, setL, V.cs, List.length_cons, List.length_nil, List.take_succ_cons, List.take_zero, List.drop_succ_cons, List.drop_zero, List.drop_nil, List.nil_append, List.cons_append, List.append_nil, Nat.zero_add, Nat.reduceAdd, List.map_cons, List.map_nil, List.set_cons_zero, List.set_cons_succ]
          simp only [hA, Bool.not_true]
          refine AW.condF rfl ?_
          refine AW.skip ?_
          try simp only [thenS]
          refine AW.region ?_
          refine AL.rp rfl rfl (rp_add rfl rfl rfl (by first | omega | (dsimp only; omega))) ?_
          refine AL.rp rfl rfl (rp_move rfl rfl) ?_
          refine AL.nil ?_
          try simp only [thenS, S.put]
          refine ⟨_, ?_, ⟨k + 1, by omega, all_snoc' hx hall (stOk_yes hf1 hA), rfl⟩, ?_⟩
          ·exact (Less.of rfl (by repeat (first | exact trivial | refine ⟨⟨_, rfl, Wk.refl _⟩, ?_⟩ | refine ⟨⟨_, rfl, Wk.nil _ _⟩, ?_⟩ | refine ⟨⟨_, rfl, Wk.junk _⟩, ?_⟩)) (by repeat (first | exact trivial | refine ⟨rfl, ?_⟩)) rfl)
          ·simp [S.nat, fnd]; omega
        ·have hA' : x.arcs.all (arOk len) = false := by simpa using hA
         by_cases hf2 : 0 ≤ x.fin ∧ x.fin ≤ 1000000000
         ·have hE : machE ⟨st, sts⟩ = 2 := machE_state hl h60 h400 hx (stOk_arcs hA')
          rw [hE]
          refine AW.seq ?_
          refine AW.region ?_
          (refine AL.rp rfl rfl (rp_lssT rfl rfl rfl (by first | assumption | omega | (dsimp only; omega))) ?_)
          refine AL.nil ?_
          try simp only [thenS, S.put]
          refine AW.seq ?_
          refine AW.condT rfl ?_
          refine AW.skip ?_
          try simp only [thenS]
          refine AW.seq ?_
          refine AW.block ?_
          refine AW.seq ?_
          refine AW.region ?_
          refine AL.rp rfl rfl (rp_index_map Try.underlying22 inf50 rfl rfl rfl rfl (by assumption)) ?_
          refine AL.rd rfl rfl (rd_loads_ad Try.underlying50 rfl inf50 rfl rfl rfl rfl) ?_
          refine AL.sm rfl (sm_alloc (l := [.d (.p (.int .i64 0)), .d (.p (.slice none 0 0))]) 8 inf50 rfl rfl rfl rfl) ?_
          refine AL.st rfl (st_store_any inf50 rfl rfl rfl rfl rfl rfl rfl rfl (by first | decide | (simp; done) | (simp; omega)) rfl) ?_
          refine AL.nil ?_
          try simp only [thenS, S.put, S.newObj, setL, V.cs, List.length_cons, List.length_nil, List.take_succ_cons, List.take_zero, List.drop_succ_cons, List.drop_zero, List.drop_nil, List.nil_append, List.cons_append, List.append_nil, Nat.zero_add, Nat.reduceAdd, List.map_cons, List.map_nil, List.set_cons_zero, List.set_cons_succ]
          refine AW.seq ?_
          refine AW.seq ?_
          refine AW.region ?_
          refine AL.rp rfl rfl (rp_field_ref Try.underlying50 rfl rfl rfl inf3 (by decide) rfl) ?_
          refine AL.rd rfl rfl (rd_load_ref Try.underlying3 rfl rfl rfl rfl rfl rfl) ?_
          refine AL.call (post := ?pc58) rfl (sm_call (args := [_]) ?hc58 ⟨Try.func27, rfl, rfl, rfl, rfl⟩ rfl rfl rfl rfl) ?_
          case hc58 => first | (refine Fn.decT (am_weight _) ?_; omega) | (refine Fn.decF (am_weight _) ?_; omega) | exact am_weight _
          rintro _ rfl -
          try dsimp only
          refine AL.rp rfl rfl (rp_not rfl rfl) ?_
          refine AL.rp rfl rfl (rp_move rfl rfl) ?_
          refine AL.no rfl rfl rfl rfl ?_
          refine AL.no rfl rfl rfl rfl ?_
          refine AL.no rfl rfl rfl rfl ?_
          refine AL.rp rfl rfl (rp_pick rfl rfl rfl) ?_
          refine AL.nil ?_
          try simp only [thenS, S.put, S.newObj, setL, V.cs, List.length_cons, List.length_nil, List.take_succ_cons, List.take_zero, List.drop_succ_cons, List.drop_zero, List.drop_nil, List.nil_append, List.cons_append, List.append_nil, Nat.zero_add, Nat.reduceAdd, List.map_cons, List.map_nil, List.set_cons_zero, List.set_cons_succ]
          refine AW.condF rfl ?_
          refine AW.skip ?_
          try simp only [thenS]
          refine AW.seq ?_
          refine AW.region ?_
          refine AL.rp rfl rfl (rp_field_ref Try.underlying50 rfl rfl rfl inf48 (by decide) rfl) ?_
          refine AL.rd rfl rfl (rd_load_ref Try.underlying48 rfl rfl rfl rfl rfl rfl) ?_
          refine AL.rp rfl rfl (rp_func (vs := [_]) rfl rfl) ?_
          refine AL.call (post := ?pc59) rfl (sm_callr (args := ?ac59) (us := [_, _]) ?hc59 ?qc59 ⟨Try.func28, rfl, rfl, rfl, rfl⟩ rfl rfl rfl ?rc59 rfl) ?_
          case hc59 => exact am_ContainsFunc x.arcs len
          case qc59 => (intro v hv; first | (subst hv; first | trivial | (simp [V.plain]; done)) | (obtain ⟨_, rfl, _⟩ := hv; first | trivial | (simp [V.plain]; done)))
          case rc59 => exact .cons (.refl _ (by simp [V.pure, V.has])) (.cons (Ro.fns (.cons (.ref 3 0 _ [.p (.int .i64 len)] rfl rfl rfl) .nil)) .nil)
          rintro _ rfl -
          try dsimp only
          refine AL.nil ?_
          try simp only [thenS, S.put, S.newObj, setL, V.cs, List.length_cons, List.length_nil, List.take_succ_cons, List.take_zero, List.drop_succ_cons, List.drop_zero, List.drop_nil, List.nil_append, List.cons_append, List.append_nil, Nat.zero_add, Nat.reduceAdd, List.map_cons, List.map_nil, List.set_cons_zero, List.set_cons_succ]
          simp only [hA', Bool.not_false]
          refine AW.condT rfl ?_
          refine AW.seq ?_
          refine AW.region ?_
          refine AL.rp rfl rfl (rp_assign rfl rfl) ?_
          refine AL.nil ?_
          try simp only [thenS, S.put]
          refine AW.ret ?_
          exact ⟨[_], ⟨rfl, trivial⟩, rfl, by simp [tupOf, V.pure, V.has]⟩
         ·have hE : machE ⟨st, sts⟩ = 2 := machE_state hl h60 h400 hx (stOk_arcs hA')
          rw [hE]
          refine AW.seq ?_
          refine AW.region ?_
          (refine AL.rp rfl rfl (rp_lssT rfl rfl rfl (by first | assumption | omega | (dsimp only; omega))) ?_)
          refine AL.nil ?_
          try simp only [thenS, S.put]
          refine AW.seq ?_
          refine AW.condT rfl ?_
          refine AW.skip ?_
          try simp only [thenS]
          refine AW.seq ?_
          refine AW.block ?_
          refine AW.seq ?_
          refine AW.region ?_
          refine AL.rp rfl rfl (rp_index_map Try.underlying22 inf50 rfl rfl rfl rfl (by assumption)) ?_
          refine AL.rd rfl rfl (rd_loads_ad Try.underlying50 rfl inf50 rfl rfl rfl rfl) ?_
          refine AL.sm rfl (sm_alloc (l := [.d (.p (.int .i64 0)), .d (.p (.slice none 0 0))]) 8 inf50 rfl rfl rfl rfl) ?_
          refine AL.st rfl (st_store_any inf50 rfl rfl rfl rfl rfl rfl rfl rfl (by first | decide | (simp; done) | (simp; omega)) rfl) ?_
          refine AL.nil ?_
          try simp only [thenS, S.put, S.newObj, setL, V.cs, List.length_cons, List.length_nil, List.take_succ_cons, List.take_zero, List.drop_succ_cons, List.drop_zero, List.drop_nil, List.nil_append, List.cons_append, List.append_nil, Nat.zero_add, Nat.reduceAdd, List.map_cons, List.map_nil, List.set_cons_zero, List.set_cons_succ]
          refine AW.seq ?_
          refine AW.seq ?_
          refine AW.region ?_
          refine AL.rp rfl rfl (rp_field_ref Try.underlying50 rfl rfl rfl inf3 (by decide) rfl) ?_
          refine AL.rd rfl rfl (rd_load_ref Try.underlying3 rfl rfl rfl rfl rfl rfl) ?_
          refine AL.call (post := ?pc60) rfl (sm_call (args := [_]) ?hc60 ⟨Try.func27, rfl, rfl, rfl, rfl⟩ rfl rfl rfl rfl) ?_
          case hc60 => first | (refine Fn.decT (am_weight _) ?_; omega) | (refine Fn.decF (am_weight _) ?_; omega) | exact am_weight _
          rintro _ rfl -
          try dsimp only
          refine AL.rp rfl rfl (rp_not rfl rfl) ?_
          refine AL.rp rfl rfl (rp_move rfl rfl) ?_
          refine AL.rpy rfl rfl rfl (rp_field_ref Try.underlying50 rfl rfl rfl inf3 (by decide) rfl) ?_
          refine AL.rdy rfl rfl rfl (rd_load_ref Try.underlying3 rfl rfl rfl rfl rfl rfl) ?_
          (refine AL.rpy rfl rfl rfl (rp_neqF rfl rfl rfl (by first | assumption | omega | (dsimp only; omega))) ?_)
          refine AL.rp rfl rfl (rp_pick rfl rfl rfl) ?_
          refine AL.nil ?_
          try simp only [thenS, S.put, S.newObj, setL, V.cs, List.length_cons, List.length_nil, List.take_succ_cons, List.take_zero, List.drop_succ_cons, List.drop_zero, List.drop_nil, List.nil_append, List.cons_append, List.append_nil, Nat.zero_add, Nat.reduceAdd, List.map_cons, List.map_nil, List.set_cons_zero, List.set_cons_succ]
          refine AW.condF rfl ?_
          refine AW.skip ?_
          try simp only [thenS]
          refine AW.seq ?_
          refine AW.region ?_
          refine AL.rp rfl rfl (rp_field_ref Try.underlying50 rfl rfl rfl inf48 (by decide) rfl) ?_
          refine AL.rd rfl rfl (rd_load_ref Try.underlying48 rfl rfl rfl rfl rfl rfl) ?_
          refine AL.rp rfl rfl (rp_func (vs := [_]) rfl rfl) ?_
          refine AL.call (post := ?pc61) rfl (sm_callr (args := ?ac61) (us := [_, _]) ?hc61 ?qc61 ⟨Try.func28, rfl, rfl, rfl, rfl⟩ rfl rfl rfl ?rc61 rfl) ?_
          case hc61 => exact am_ContainsFunc x.arcs len
          case qc61 => (intro v hv; first | (subst hv; first | trivial | (simp [V.plain]; done)) | (obtain ⟨_, rfl, _⟩ := hv; first | trivial | (simp [V.plain]; done)))
          case rc61 => exact .cons (.refl _ (by simp [V.pure, V.has])) (.cons (Ro.fns (.cons (.ref 3 0 _ [.p (.int .i64 len)] rfl rfl rfl) .nil)) .nil)
          rintro _ rfl -
          try dsimp only
          refine AL.nil ?_
          try simp only [thenS, S.put, S.newObj, setL, V.cs, List.length_cons, List.length_nil, List.take_succ_cons, List.take_zero, List.drop_succ_cons, List.drop_zero, List.drop_nil, List.nil_append, List.cons_append, List.append_nil, Nat.zero_add, Nat.reduceAdd, List.map_cons, List.map_nil, List.set_cons_zero, List.set_cons_succ]
          simp only [hA', Bool.not_false]
          refine AW.condT rfl ?_
          refine AW.seq ?_
          refine AW.region ?_
          refine AL.rp rfl rfl (rp_assign rfl rfl) ?_
          refine AL.nil ?_
          try simp only [thenS, S.put]
          refine AW.ret ?_
          exact ⟨[_], ⟨rfl, trivial⟩, rfl, by simp [tupOf, V.pure, V.has]⟩
       ·have hE : machE ⟨st, sts⟩ = 2 := machE_state hl h60 h400 hx (stOk_fin (by simp [finOk]; omega))
        rw [hE]
        refine AW.seq ?_
        refine AW.region ?_
        (refine AL.rp rfl rfl (rp_lssT rfl rfl rfl (by first | assumption | omega | (dsimp only; omega))) ?_)
        refine AL.nil ?_
        try simp only [thenS, S.put]
        refine AW.seq ?_
        refine AW.condT rfl ?_
        refine AW.skip ?_
        try simp only [thenS]
        refine AW.seq ?_
        refine AW.block ?_
        refine AW.seq ?_
        refine AW.region ?_
        refine AL.rp rfl rfl (rp_index_map Try.underlying22 inf50 rfl rfl rfl rfl (by assumption)) ?_
        refine AL.rd rfl rfl (rd_loads_ad Try.underlying50 rfl inf50 rfl rfl rfl rfl) ?_
        refine AL.sm rfl (sm_alloc (l := [.d (.p (.int .i64 0)), .d (.p (.slice none 0 0))]) 8 inf50 rfl rfl rfl rfl) ?_
        refine AL.st rfl (st_store_any inf50 rfl rfl rfl rfl rfl rfl rfl rfl (by first | decide | (simp; done) | (simp; omega)) rfl) ?_
        refine AL.nil ?_
        try simp only [thenS, S.put, S.newObj, setL, V.cs, List.length_cons, List.length_nil, List.take_succ_cons, List.take_zero, List.drop_succ_cons, List.drop_zero, List.drop_nil, List.nil_append, List.cons_append, List.append_nil, Nat.zero_add, Nat.reduceAdd, List.map_cons, List.map_nil, List.set_cons_zero, List.set_cons_succ]
        refine AW.seq ?_
        refine AW.seq ?_
        refine AW.region ?_
        refine AL.rp rfl rfl (rp_field_ref Try.underlying50 rfl rfl rfl inf3 (by decide) rfl) ?_
        refine AL.rd rfl rfl (rd_load_ref Try.underlying3 rfl rfl rfl rfl rfl rfl) ?_
        refine AL.call (post := ?pc62) rfl (sm_call (args := [_]) ?hc62 ⟨Try.func27, rfl, rfl, rfl, rfl⟩ rfl rfl rfl rfl) ?_
        case hc62 => first | (refine Fn.decT (am_weight _) ?_; omega) | (refine Fn.decF (am_weight _) ?_; omega) | exact am_weight _
        rintro _ rfl -
        try dsimp only
        refine AL.rp rfl rfl (rp_not rfl rfl) ?_
        refine AL.rp rfl rfl (rp_move rfl rfl) ?_
        refine AL.rpy rfl rfl rfl (rp_field_ref Try.underlying50 rfl rfl rfl inf3 (by decide) rfl) ?_
        refine AL.rdy rfl rfl rfl (rd_load_ref Try.underlying3 rfl rfl rfl rfl rfl rfl) ?_
        (refine AL.rpy rfl rfl rfl (rp_neqT rfl rfl rfl (by first | assumption | omega | (dsimp only; omega))) ?_)
        refine AL.rp rfl rfl (rp_pick rfl rfl rfl) ?_
        refine AL.nil ?_
        try simp only [thenS, S.put, S.newObj, setL, V.cs, List.length_cons, List.length_nil, List.take_succ_cons, List.take_zero, List.drop_succ_cons, List.drop_zero, List.drop_nil, List.nil_append, List.cons_append, List.append_nil, Nat.zero_add, Nat.reduceAdd, List.map_cons, List.map_nil, List.set_cons_zero, List.set_cons_succ]
        refine AW.condT rfl ?_
        refine AW.seq ?_
        refine AW.region ?_
        refine AL.rp rfl rfl (rp_assign rfl rfl) ?_
        refine AL.nil ?_
        try simp only [thenS, S.put]
        refine AW.ret ?_
        exact ⟨[_], ⟨rfl, trivial⟩, rfl, by simp [tupOf, V.pure, V.has]⟩
      ·skip
       refine AW.seq ?_
       refine AW.region ?_
       (refine AL.rp rfl rfl (rp_lssF rfl rfl rfl (by first | assumption | omega | (dsimp only; omega))) ?_)
       refine AL.nil ?_
       try simp only [thenS, S.put]
       refine AW.seq ?_
       refine AW.condF rfl ?_
       refine AW.exit ?_
       try simp only [thenS, inBlockS, ↓reduceIte, Nat.reduceEqDiff]
       refine AW.seq ?_
       refine AW.region ?_
       refine AL.rp rfl rfl (rp_assign rfl rfl) ?_
       refine AL.nil ?_
       try simp only [thenS, S.put]
       refine AW.ret ?_
       exact ⟨[_], ⟨rfl, trivial⟩, by rw [machE_good hl h60 h400 (by omega) hlt hall]; rfl, by simp [tupOf, V.pure, V.has]⟩
     ·skip
      refine AW.seq ?_
      refine AW.region ?_
      (refine AL.rp rfl rfl (rp_lssF rfl rfl rfl (by first | assumption | omega | (dsimp only; omega))) ?_)
      refine AL.nil ?_
      try simp only [thenS, S.put]
      refine AW.seq ?_
      refine AW.condF rfl ?_
      refine AW.exit ?_
      try simp only [thenS, inBlockS, ↓reduceIte, Nat.reduceEqDiff]
      refine AW.seq ?_
      refine AW.seq ?_
      refine AW.region ?_
      refine AL.rp rfl rfl (rp_move rfl rfl) ?_
      (refine AL.rp rfl rfl (rp_gtrF rfl rfl rfl (by first | assumption | omega | (dsimp only; omega))) ?_)
      refine AL.nil ?_
      try simp only [thenS, S.put]
      refine AW.condF rfl ?_
      refine AW.skip ?_
      try simp only [thenS]
      refine AW.seq ?_
      refine AW.seq ?_
      refine AW.region ?_
      refine AL.rp rfl rfl (rp_field_ref Try.underlying24 rfl rfl rfl inf3 (by decide) rfl) ?_
      refine AL.rd rfl rfl (rd_load_ref Try.underlying3 rfl rfl rfl rfl rfl rfl) ?_
      (refine AL.rp rfl rfl (rp_lssF rfl rfl rfl (by first | assumption | omega | (dsimp only; omega))) ?_)
      refine AL.rp rfl rfl (rp_move rfl rfl) ?_
      refine AL.rpy rfl rfl rfl (rp_field_ref Try.underlying24 rfl rfl rfl inf3 (by decide) rfl) ?_
      refine AL.rdy rfl rfl rfl (rd_load_ref Try.underlying3 rfl rfl rfl rfl rfl rfl) ?_
      refine AL.rdy rfl rfl rfl (rd_load_ref Try.underlying3 rfl rfl rfl rfl rfl rfl) ?_
      (refine AL.rpy rfl rfl rfl (rp_geqT rfl rfl rfl (by first | assumption | omega | (dsimp only; omega))) ?_)
      refine AL.rp rfl rfl (rp_pick rfl rfl rfl) ?_
      refine AL.nil ?_
      try simp only [thenS, S.put]
      refine AW.condT rfl ?_
      refine AW.seq ?_
      refine AW.region ?_
      refine AL.rp rfl rfl (rp_assign rfl rfl) ?_
      refine AL.nil ?_
      try simp only [thenS, S.put]
      refine AW.ret ?_
      exact ⟨[_], ⟨rfl, trivial⟩, by rw [machE_start hl h60 h400 (by omega)]; rfl, by simp [tupOf, V.pure, V.has]⟩
    ·skip
     refine AW.seq ?_
     refine AW.region ?_
     (refine AL.rp rfl rfl (rp_lssF rfl rfl rfl (by first | assumption | omega | (dsimp only; omega))) ?_)
     refine AL.nil ?_
     try simp only [thenS, S.put]
     refine AW.seq ?_
     refine AW.condF rfl ?_
     refine AW.exit ?_
     try simp only [thenS, inBlockS, ↓reduceIte, Nat.reduceEqDiff]
     refine AW.seq ?_
     refine AW.seq ?_
     refine AW.region ?_
     refine AL.rp rfl rfl (rp_move rfl rfl) ?_
     (refine AL.rp rfl rfl (rp_gtrF rfl rfl rfl (by first | assumption | omega | (dsimp only; omega))) ?_)
     refine AL.nil ?_
     try simp only [thenS, S.put]
     refine AW.condF rfl ?_
     refine AW.skip ?_
     try simp only [thenS]
     refine AW.seq ?_
     refine AW.seq ?_
     refine AW.region ?_
     refine AL.rp rfl rfl (rp_field_ref Try.underlying24 rfl rfl rfl inf3 (by decide) rfl) ?_
     refine AL.rd rfl rfl (rd_load_ref Try.underlying3 rfl rfl rfl rfl rfl rfl) ?_
     (refine AL.rp rfl rfl (rp_lssT rfl rfl rfl (by first | assumption | omega | (dsimp only; omega))) ?_)
     refine AL.rp rfl rfl (rp_move rfl rfl) ?_
     refine AL.no rfl rfl rfl rfl ?_
     refine AL.no rfl rfl rfl rfl ?_
     refine AL.no rfl rfl rfl rfl ?_
     refine AL.no rfl rfl rfl rfl ?_
     refine AL.rp rfl rfl (rp_pick rfl rfl rfl) ?_
     refine AL.nil ?_
     try simp only [thenS, S.put]
     refine AW.condT rfl ?_
     refine AW.seq ?_
     refine AW.region ?_
     refine AL.rp rfl rfl (rp_assign rfl rfl) ?_
     refine AL.nil ?_
     try simp only [thenS, S.put]
     refine AW.ret ?_
     exact ⟨[_], ⟨rfl, trivial⟩, by rw [machE_start hl h60 h400 (by omega)]; rfl, by simp [tupOf, V.pure, V.has]⟩
end Go.Proofs.Ythlcginebeapdaa
