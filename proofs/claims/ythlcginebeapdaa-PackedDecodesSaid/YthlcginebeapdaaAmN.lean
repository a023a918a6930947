/- Rules for appends among reads, parts of array values, appends of nothing. -/
import Derived.Deep.Upon
import Derived.Test.YthlcginebeapdaaAmX
import Derived.Test.YthlcginebeapdaaAmW
namespace Go.Proofs.Ythlcginebeapdaa
open Go.RowKit
set_option linter.unusedSimpArgs false
set_option linter.unusedVariables false

section
variable {c : Cx} {s : S} {o : Oper} {Q : Exit → S → Prop}
theorem st_appendFX {t e : TypeId} {x y : Operand} {r r2 sz bt n m : Nat} {z : Value} {f : Bool} {row row2 : Row} {news : List V} (hu : c.P.underlying t = some (.slice e)) (hi : Inf c.P e sz bt z) (hzs : z.cells.size = sz) (hsz : 0 < sz)
    (ho : o.op = .call { callee := .builtin .append, args := #[x, y], argTypes := #[t, t] }) (hx : s.ev x = some (.own r sz n f)) (hr : fnd s.H r = some row) (hf : row.nil = f) (hrz : row.sz = sz) (hty : row.ty = e)
    (hl1 : row.cells.length = n * sz) (hc1 : V.hasL r row.cells = false) (hy : s.ev y = some (.own r2 sz m false)) (hr2 : fnd s.H r2 = some row2) (hf2 : row2.nil = false) (hnews : row2.cells.take (m * sz) = news) (hnl : news.length = m * sz) (hc2 : V.hasL r news = false) (hone : news.all V.one = true) (hm : 0 < m) (h63 : n + m ≤ 140737488355328) (hbt : (n + m) * bt ≤ 140737488355328) (hd : dok s o = true) :
    StepX c o s r (fun s' => s' = S.put ⟨s.n, (s.forget r).T, (r, ⟨e, row.cells ++ news, false, sz⟩) :: (s.forget r).H, (s.forget r).K⟩ o.dst (.own r sz (n + m) false)) :=
  st_appendX hu hi hzs hsz ho hx hr hf hrz hty (List.take_of_length_le (by omega)) hl1 hc1 hy hr2 hf2 hnews hnl hc2 hone hm h63 hbt hd

/-- A part of an array's value. -/
theorem rp_index_agg (k : Nat) {t e : TypeId} {x y : Operand} {len sz bt : Nat} {d : TypeDesc} {z : Value} {l l' : List V} {n' : Int} {kd : IntKind} (hu : c.P.underlying t = some (.array len e)) (hi : Inf c.P e sz bt z) (hue : c.P.underlying e = some d) (hd : isAggD d = true) (ho : o.op = .index t x y) (hx : s.ev x = some (.agg l)) (hy : s.ev y = some (.d (.p (.int kd n')))) (hk : n' = (k : Int)) (hlt : k < len) (hl : (l.drop (k * sz)).take sz = l') : RP c o s (.agg l') := fun g a w hs => by
  subst hk
  have h := hs.ev hx
  have hyv := VRep.p_eq (hs.ev hy)
  generalize hxx : a.eval x = u at h
  cases h with
  | agg _ cs hlen hh =>
    refine ⟨.agg ((cs.drop (k * sz)).take sz).toArray, .agg l' _ (by rw [← hl]; simp [hlen]) (fun j u y h1 h2 => ?_), fun w' => ?_⟩
    · rw [← hl, List.getElem?_take] at h1
      rw [List.getElem?_take] at h2
      split at h1
      · rename_i hj
        rw [if_pos hj] at h2
        rw [List.getElem?_drop] at h1 h2
        exact hh _ u y h1 h2
      · cases h1
    · have h0 : (0 : Int) ≤ (k : Int) ∧ (k : Int) < (len : Int) := by omega
      simp only [execOp, ho, hxx, hyv, Instr.index, asIntOf, Sem.run_bind, Sem.run_pure, Result.andThen_ok, run_underlying hu, if_pos h0, run_sizeOf hi, Int.toNat_natCast, part, run_isAgg hue, hd, if_true]
      simp only [List.extract_toArray, Sem.run_pure, Sem.run_map, Result.andThen_ok, List.extract_eq_take_drop, Nat.add_sub_cancel_left]

/-- Nothing is appended. -/
theorem rp_append_nil {t e : TypeId} {x y : Operand} {r sz bt n : Nat} {z : Value} {f : Bool} (hu : c.P.underlying t = some (.slice e)) (hi : Inf c.P e sz bt z)
    (ho : o.op = .call { callee := .builtin .append, args := #[x, y], argTypes := #[t, t] }) (hx : s.ev x = some (.own r sz n f)) (hy : s.ev y = some .nil) : RP c o s (.own r sz n f) := fun g a w hs => by
  have h := hs.ev hx
  have hyv := VRep.p_eq (hs.ev hy)
  obtain ⟨i, hi1, hi2, hi3, hi4⟩ := hi.out
  refine ⟨a.eval x, h, fun w' => ?_⟩
  generalize hxx : a.eval x = u at h
  cases h with
  | own _ _ _ hn hcap =>
    simp only [execOp, ho, resolve, invoke, builtin, Sem.run_bind, Sem.run_pure, Result.andThen_ok, List.map_toArray, List.map_cons, List.map_nil, hxx, hyv]
    rw [run_append_nothing w' t t o.type e i hu hi1 _ n (g r).2 hn _ ⟨.inl ⟨e, hu⟩, fun _ => rfl, by simp [Builtin.firstCells, Sem.run], by simp [Builtin.firstCells, Sem.run], by simp, by simp⟩]
    rfl
  | ownNil =>
    simp only [execOp, ho, resolve, invoke, builtin, Sem.run_bind, Sem.run_pure, Result.andThen_ok, List.map_toArray, List.map_cons, List.map_nil, hxx, hyv]
    rw [run_append_nothing w' t t o.type e i hu hi1 none 0 0 (Nat.le_refl _) _ ⟨.inl ⟨e, hu⟩, fun _ => rfl, by simp [Builtin.firstCells, Sem.run], by simp [Builtin.firstCells, Sem.run], by simp, by simp⟩]
    rfl
/-- An array of parts. -/
theorem rp_build_arr {t e : TypeId} {len esz ebt : Nat} {ez : Value} {ps : Array (Nat × Operand)} {sz bt : Nat} {z : Value} {vs : List (Nat × V)} {zs l : List V} (hu : c.P.underlying t = some (.array len e)) (hie : Inf c.P e esz ebt ez) (hi : Inf c.P t sz bt z) (ho : o.op = .build t ps)
    (hv : ps.toList.map (fun x => (x.1, s.ev x.2)) = vs.map (fun x => (x.1, some x.2))) (hzs : z.cells.toList.map (fun y => V.d (.p y)) = zs) (hf : fillV (fun i => some (i * esz, esz)) zs vs = some l) : RP c o s (.agg l) := fun g a w hs => by
  subst hzs
  obtain ⟨h1, h2⟩ := parts_rep hs hv
  obtain ⟨arr, h3, h4, h5⟩ := fill_rep (w := w) (q := qt c s.H g) (g := g) (place := fun i => some (i * esz, esz)) vs (ps.toList.map fun x => (x.1, a.eval x.2)) _ z.cells l hf h1 h2 (by simp) (zero_rep z)
  refine ⟨.agg arr, ?_, fun w' => ?_⟩
  · have := VRep.agg (w := w) (q := qt c s.H g) (g := g) l arr.toList (by simpa using h4) (fun j u y hu hy => h5 j u y hu (by simpa using hy))
    simpa using this
  · obtain ⟨i, hi1, hi2, hi3, hi4⟩ := hi.out
    obtain ⟨ie, he1, he2, he3, he4⟩ := hie.out
    have hb : c.P.built t (ps.map fun (i, x) => (i, a.eval x)).toList = some arr := by
      simp only [Program.built, hi1, hu, hi4, he1, he2]
      rw [← h3]
      simp
    simp only [execOp, ho, Sem.run_bind, run_build w' t _ arr hb, Result.andThen_ok]
    rfl
theorem AD2.callo {L : List Oper} {need : Nat → Bool} {l : List (Nat × Bool)} {i : Nat} {post : V → List (Nat × Row) → Prop} (hi : L[i]? = some o) (hg : o.guard = none) (h : StepM c o s (fun s' => ∃ v H, post v H ∧ s' = S.put ⟨s.n, s.T, H ++ s.H, s.K⟩ o.dst v)) (hN : ∀ v H, post v H → AD2 c L.toArray Q need l (S.put ⟨s.n, s.T, H ++ s.H, s.K⟩ o.dst v)) : AD2 c L.toArray Q need ((i, false) :: l) s :=
  AD2.stepM hi hg fun g a w hs K Q' hK => h g a w hs K Q' fun g' s' a' w' ⟨v, H, h1, e⟩ h3 h4 => hK g' s' a' w' (by subst e; exact hN v H h1) h3 h4
end
end Go.Proofs.Ythlcginebeapdaa
