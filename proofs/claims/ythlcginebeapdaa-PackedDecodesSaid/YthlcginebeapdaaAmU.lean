/- More rules of the walk without worlds: loops with a measure of their own, parts of slices, calls walked where they stand in drawn regions. -/
import Derived.Test.YthlcginebeapdaaAmQ
import Derived.Test.YthlcginebeapdaaAmP
import Derived.Test.YthlcginebeapdaaAmI
namespace Go.Proofs.Ythlcginebeapdaa
open Go.RowKit
set_option linter.unusedSimpArgs false
set_option linter.unusedVariables false

section
variable {c : Cx} {Q : Exit → S → Prop} {s : S} {o : Oper}

open Classical in
/-- A loop whose invariant tells how far it still is. -/
theorem AW.loopN {x : Code} (I : Nat → S → Prop) (h0 : ∃ n s', Less s' s ∧ I n s')
    (round : ∀ n s, I n s → AW c x (thenS (fun s' => ∃ m s'', Less s'' s' ∧ I m s'' ∧ m < n) Q) s) : AW c (.loop x) Q s := by
  refine AW.loop (fun s => ∃ n, I n s) (fun s => if h : ∃ n, I n s then Classical.choose (least_nat h) else 0) ?_ ?_
  · obtain ⟨n, s', h1, h2⟩ := h0
    exact ⟨s', h1, n, h2⟩
  · intro s hs
    obtain ⟨hc1, hc2⟩ := Classical.choose_spec (least_nat hs)
    refine (round _ s hc1).mono fun e s' hq => ?_
    cases e
    case normal =>
      obtain ⟨m, s'', h1, h2, h3⟩ := hq
      refine ⟨s'', h1, ⟨m, h2⟩, ?_⟩
      have hs'' : ∃ n, I n s'' := ⟨m, h2⟩
      simp only [dif_pos hs, dif_pos hs'']
      have := (Classical.choose_spec (least_nat hs'')).2 m h2
      omega
    all_goals exact hq

/-- The first k of a slice of the call's own. -/
theorem rp_slice_own {t e : TypeId} {x y : Operand} {r sz bt n k : Nat} {z : Value} {f : Bool} {n' : Int} {kd : IntKind} (hu : c.P.underlying t = some (.slice e)) (hi : Inf c.P e sz bt z) (ho : o.op = .slice t x none (some y) none) (hx : s.ev x = some (.own r sz n f)) (hy : s.ev y = some (.d (.p (.int kd n')))) (hk : n' = (k : Int)) (hle : k ≤ n) :
    RD c o s (.own r sz k f) := fun g a w hs => by
  subst hk
  have h := hs.ev hx
  have hyv := VRep.p_eq (hs.ev hy)
  generalize hxx : a.eval x = u at h
  cases h with
  | own _ _ _ hn hcp =>
    refine ⟨.slice (some ⟨(g r).1, 0, none⟩) k (g r).2, .own r sz k (Nat.le_trans hle hn) hcp, fun w' _ => ?_⟩
    have h0 : (0 : Int) ≤ (k : Int) ∧ (k : Int) ≤ ((g r).2 : Int) := by omega
    simp only [execOp, ho, hxx, hyv, Option.map_some, Option.map_none]
    simp only [Instr.sliceAt, Instr.slice, Sem.run_bind, run_underlying hu, Result.andThen_ok, Instr.sliceBounds, run_sliceBound _ kd _ _ _ h0.1 h0.2, Sem.run_pure, run_sizeOf hi, Int.toNat_natCast, Nat.sub_zero, Nat.zero_mul]
    simp [Addr.add]
  | ownNil =>
    obtain rfl : k = 0 := by omega
    refine ⟨.slice none 0 0, .ownNil r sz, fun w' _ => ?_⟩
    simp only [execOp, ho, hxx, hyv, Option.map_some, Option.map_none]
    simp only [Instr.sliceAt, Instr.slice, Sem.run_bind, run_underlying hu, Result.andThen_ok, Instr.sliceBounds, Sem.run_pure, run_sizeOf hi, Int.toNat_natCast, Nat.sub_zero, Nat.zero_mul]
    simp [run_sliceBound _ kd (0 : Int) 0 .sliceAcap (Int.le_refl 0) (Int.le_refl 0)]

theorem st_store_map2 {α : Type} {t : TypeId} {bt : Nat} {z : Value} {x y : Operand} {r k : Nat} {row : Row} {l : List α} {f : α → V} {v : α} (hi : Inf c.P t 1 bt z) (ho : o.op = .store t x y) (hd : o.dst = none) (hx : s.ev x = some (.ref r (k * 1))) (hr : fnd s.H r = some row) (hn : row.nil = false)
    (hf : row.cells = l.map f) (hy : s.ev y = some (f v)) (hok : (f v).one = true) (hfit : k < l.length) : Step c o s (fun s' => s' = { s with H := (r, { row with cells := (l.set k v).map f }) :: s.H }) := st_store_map hi ho hd hx hy hr hn hf hok hfit
/-- A state that says less: fewer cells of one object. -/
theorem Less.cut (r : Nat) (cells : List V) {row : Row} (hr : fnd s.H r = some row) (hp : ∃ more, row.cells = cells ++ more) : Less ⟨s.n, s.T, (r, { row with cells := cells }) :: s.H, s.K⟩ s := by
  obtain ⟨more, hp⟩ := hp
  refine ⟨rfl, fun i v h => ⟨v, h, .refl _⟩, fun k row' hk => ?_, fun j v h => ⟨v, h, .refl _⟩⟩
  simp only [fnd] at hk
  split at hk
  · rename_i e
    simp only [beq_iff_eq] at e
    subst e
    simp only [Option.some.injEq] at hk
    subst hk
    refine ⟨row, hr, rfl, rfl, rfl, fun j v hv => ⟨v, ?_, .refl _⟩⟩
    rw [hp, List.getElem?_append_left (List.getElem?_eq_some_iff.1 hv).1]
    exact hv
  · exact ⟨row', hk, rfl, rfl, rfl, fun j v hv => ⟨v, hv, .refl _⟩⟩
theorem AL.cut {ops : Array Oper} {l : List Oper} (r : Nat) (cells : List V) {row : Row} (hr : fnd s.H r = some row) (hp : ∃ more, row.cells = cells ++ more) (h : AL c ops l Q ⟨s.n, s.T, (r, { row with cells := cells }) :: s.H, s.K⟩) : AL c ops l Q s := AL.less (Less.cut r cells hr hp) h
theorem AW.cut {x : Code} (r : Nat) (cells : List V) {row : Row} (hr : fnd s.H r = some row) (hp : ∃ more, row.cells = cells ++ more) (h : AW c x Q ⟨s.n, s.T, (r, { row with cells := cells }) :: s.H, s.K⟩) : AW c x Q s := AW.less (Less.cut r cells hr hp) h
theorem LH.getW {s : S} : ∀ {l : List (Nat × Row)}, (∀ x ∈ l, ∃ row, fnd s.H x.1 = some row ∧ x.2.ty = row.ty ∧ x.2.nil = row.nil ∧ x.2.sz = row.sz ∧ ∀ (j : Nat) (v : V), x.2.cells[j]? = some v → ∃ u, row.cells[j]? = some u ∧ Wk v u) → ∀ (r : Nat) (row' : Row), fnd l r = some row' → ∃ row, fnd s.H r = some row ∧ row'.ty = row.ty ∧ row'.nil = row.nil ∧ row'.sz = row.sz ∧ ∀ (j : Nat) (v : V), row'.cells[j]? = some v → ∃ u, row.cells[j]? = some u ∧ Wk v u :=
  fun h r row' hr => h (r, row') (fnd_mem hr)

/-- A call that is walked where it stands, in a drawn region, after which nothing else may be drawn. -/
theorem AD3.inline {L : List Oper} {need : Nat → Bool} {l' : List (Nat × Bool)} {i : Nat} (l : List Nat) {ts : List V} {fx : Operand} {xs : Array Operand} {tys : Array TypeId} {f : FuncId} {caps : List V} {fn : Func} {code : Code} {n : Nat} {rs : List ResultVar} {ars : List V} (hi : L[i]? = some o) (hg : o.guard = none) (hne : need i = false) (hts : l.map (fun i => fnd s.T i) = ts.map some) (hf : Is c.P f fn code n rs)
    (ho : o.op = .call { callee := .value fx, args := xs, argTypes := tys }) (hfx : s.ev fx = some (.fn f caps)) (hargs : xs.toList.map s.ev = ars.map some) (hn : ars.length + caps.length ≤ n) (hd : dok s o = true)
    (h : ∀ kx, AW ⟨c.P, c.w0, c.out, kx, []⟩ code (QI c.P rs s.n l o.dst (AD3 c L.toArray Q need l')) ⟨n, enum 0 (ars ++ caps), s.H, ts ++ s.K⟩) : AD3 c L.toArray Q need ((i, false) :: l') s :=
  AD3.step hi hg hne (st_inline l hts hf ho hfx hargs hn hd h)
end

/-- A result that says less. -/
inductive WkR : V → V → Prop
  | one {v' v : V} (h : Wk v' v) : WkR v' v
  | tup {l' l : List V} (hl : l'.length = l.length) (h : ∀ (j : Nat) (u v : V), l'[j]? = some u → l[j]? = some v → Wk u v) : WkR (.tup l') (.tup l)
theorem WkR.rep {w : World} {q : Nat → Prop} {g : Nat → Nat × Nat} {v' v : V} {x : Value} (h : WkR v' v) (hv : VRep w q g v x) : VRep w q g v' x := by
  cases h with
  | one h => exact h.rep hv
  | tup hl h =>
    cases hv with
    | tup _ cs hlen hh =>
      refine .tup _ cs (by omega) fun j u y hu hy => ?_
      have hj := (List.getElem?_eq_some_iff.1 hu).1
      rename_i l' l
      have hj' : j < l.length := by omega
      exact (h j u l[j] hu (List.getElem?_eq_getElem hj')).rep (hh j _ y (List.getElem?_eq_getElem hj') hy)
theorem Fn.wk {P : Program} {f : FuncId} {args : List V} {post post' : V → Prop} (h : Fn P f args post) (hp : ∀ v, post v → v.pure → ∃ v', post' v' ∧ v'.pure ∧ WkR v' v) : Fn P f args post' := fun w out g xs h1 h2 =>
  (h w out g xs h1 h2).mono fun e w' ⟨v, x, h3, h4, h5, h6, h7⟩ => by
    obtain ⟨v', k1, k2, k3⟩ := hp v h4 h5
    exact ⟨v', x, h3, k1, k2, k3.rep h6, h7⟩
/-- No slice: as an empty one. -/
theorem WkR.nil1 (sz bt : Nat) (n : Int) : WkR (.tup [.d (.sl sz bt []), .i n]) (.tup [.nil, .i n]) := .tup rfl fun j u v h1 h2 => by
  match j, h1, h2 with
  | 0, h1, h2 => simp at h1 h2; subst h1 h2; exact .nil _ _
  | 1, h1, h2 => simp at h1 h2; subst h1 h2; exact .refl _
  | n + 2, h1, h2 => simp at h1
theorem Fn.eqi {P : Program} {f : FuncId} {args : List V} {x y : Int} (h : Fn P f args (fun v => v = .i x)) (e : x = y) : Fn P f args (fun v => v = .i y) := by subst e; exact h
theorem Fn.eqv {P : Program} {f : FuncId} {args : List V} {x y : V} (h : Fn P f args (fun v => v = x)) (e : x = y) : Fn P f args (fun v => v = y) := by subst e; exact h
theorem Fn.wkS {P : Program} {f : FuncId} {args : List V} {post post' : V → Prop} (h : Fn P f args post) (hp : ∀ v, post v → v.pure → ∃ v', post' v' ∧ v'.pure ∧ ∀ w q g x, VRep w q g v x → VRep w q g v' x) : Fn P f args post' := fun w out g xs h1 h2 =>
  (h w out g xs h1 h2).mono fun e w' ⟨v, x, h3, h4, h5, h6, h7⟩ => by
    obtain ⟨v', k1, k2, k3⟩ := hp v h4 h5
    exact ⟨v', x, h3, k1, k2, k3 _ _ _ _ h6, h7⟩
theorem rep_tup2 {u u' v : V} (h : ∀ w q g x, VRep w q g u x → VRep w q g u' x) : ∀ w q g x, VRep w q g (.tup [u, v]) x → VRep w q g (.tup [u', v]) x := by
  intro w q g x hx
  cases hx with
  | tup _ cs hl hh =>
    refine .tup _ cs hl fun j y z hy hz => ?_
    match j, hy with
    | 0, hy => simp at hy; subst hy; exact h _ _ _ _ (hh 0 u z rfl hz)
    | 1, hy => exact hh 1 y z hy hz
    | n + 2, hy => simp at hy
theorem rep_zeroM (n : Int) : ∀ w q g x, VRep w q g (.agg [.i n, .nil]) x → VRep w q g (.agg [.i n, .d (.sl 2 32 [])]) x := by
  intro w q g x hx
  cases hx with
  | agg _ cs hl hh =>
    refine .agg _ cs hl fun j y z hy hz => ?_
    match j, hy with
    | 0, hy => exact hh 0 y z hy hz
    | 1, hy => simp at hy; subst hy; exact (Wk.nil 2 32).rep (hh 1 .nil z rfl hz)
    | n + 2, hy => simp at hy
/-- Either an error with nothing, or the machine. -/
def resP (e : Int) (M : Mach) (v : V) : Prop := e ≠ 0 ∧ v = .tup [.agg [.i 0, .nil], .i e] ∨ e = 0 ∧ v = .tup [mV M, .i 0]
theorem resP_wk {e : Int} {M : Mach} (hM : e ≠ 0 → M = ⟨0, []⟩) (v : V) (h : resP e M v) (_ : v.pure) : ∃ v', v' = .tup [mV M, .i e] ∧ v'.pure ∧ ∀ w q g x, VRep w q g v x → VRep w q g v' x := by
  refine ⟨_, rfl, by simp [V.pure, V.has, V.hasL], ?_⟩
  rcases h with ⟨h0, rfl⟩ | ⟨h0, rfl⟩
  · rw [hM h0]
    exact rep_tup2 (rep_zeroM 0)
  · rw [h0]
    exact fun _ _ _ _ h => h
end Go.Proofs.Ythlcginebeapdaa
