/- Streams, the small ones: copies, the order of marks. -/
import Derived.Test.YtjbldphpkkmdpaaAmQ
import Derived.Test.YtjbldphpkkmdpaaAmW
import Derived.Test.YtjbldphpkkmdpaaAmN
import Derived.Test.YtjbldphpkkmdpaaStrm
namespace Go.Proofs.Ytjbldphpkkmdpaa
open Go.RowKit
set_option linter.unusedSimpArgs false
set_option linter.unusedVariables false
set_option maxRecDepth 100000

section
variable {c : Cx} {s : S} {o : Oper}
/-- Is a slice of plain data nil? Only an empty one may be. -/
theorem sm_eqnil {t t' e : TypeId} {x y : Operand} {sz bt : Nat} {rows : List (List D)} (hu : c.P.underlying t = some (.slice e)) (ho : o.op = .binOp .eql t x y t') (hx : s.ev x = some (.d (.sl sz bt rows))) (hy : s.ev y = some .nil) (hd : dok s o = true) :
  StepM c o s (fun s' => ∃ v, (∃ b : Bool, v = .b b ∧ (b = true → rows = [])) ∧ v.pure ∧ s' = s.put o.dst v) := by
 intro g a w hs K Q hK
 have h := hs.ev hx
 have hyv := VRep.p_eq (hs.ev hy)
 have hrun : ∀ (ad : Option Addr) (n cap : Nat), (binOp .eql t (.slice ad n cap) (.slice none 0 0)).run c.P w = .ok (.bool ad.isNone) w := by
  intro ad n cap
  have key : ∀ d : Nat, (Op.equalIn (d + 1) t (.slice ad n cap) (.slice none 0 0)).run c.P w = .ok ad.isNone w := fun d => by
   cases ad <;> simp [Op.equalIn, run_underlying hu]
  have h2 : (Op.equal t (.slice ad n cap) (.slice none 0 0)).run c.P w = .ok ad.isNone w := key 9999
  simp only [binOp, Sem.run_bind, h2, Result.andThen_ok]
  rfl
 have hgd : ∀ (ad : Option Addr) (n cap : Nat), (eqGuard .eql t x y (.slice ad n cap) (.slice none 0 0)).run c.P w = .ok () w := by
  intro ad n cap; simp [eqGuard]
 generalize hxx : a.eval x = u at h
 cases h with
 | d _ _ h =>
  cases h with
  | sl _ _ _ ad cap b o' f ha hl hc hr =>
   unfold Oper.wp
   have hexec : (execOp a.eval o).run c.P w = .ok (.value (.bool ad.isNone)) w := by
    simp only [execOp, ho, hxx, hyv, Sem.run_bind, hgd, hrun, Result.andThen_ok]
    rfl
   rw [hexec]
   refine hK g _ _ _ ⟨.b ad.isNone, ⟨_, rfl, fun hb => ?_⟩, by simp [V.pure, V.has], rfl⟩ (hs.put o.dst (dok_spec hd) (.d _ _ (.p _))) (Below.refl _ _)
   by_cases h0 : rows = []
   ·exact h0
   ·obtain ⟨rfl, _⟩ := ha h0
    cases hb
/-- An empty slice literal. -/
theorem sm_slice0 (r : Nat) {t e : TypeId} {sz bt : Nat} {z : Value} (hu : c.P.underlying t = some (.slice e)) (hi : Inf c.P e sz bt z) (ho : o.op = .buildSlice t 0 #[]) (hr : s.clean r = true) (hd : dok s o = true) :
  StepM c o s (fun s' => s' = s.newObj r ⟨e, [], false, sz⟩ o.dst (.own r sz 0 false)) :=
 (sm_newG (cap := 0) hr rfl rfl hd (fun g a w hs => by
  refine ⟨#[], .slice (some ⟨w.heap.size, 0, none⟩) 0 0, fun _ => by simp, ?_, fun j u hu => by simp at hu, ?_⟩
  ·simp [execOp, ho, Instr.buildSlice, run_underlying hu, run_sizeOf hi, newRow, Instr.fill]
   rw [show (Array.map (fun _ => (default : Value)) (Array.range 0)) = #[] from Array.eq_empty_of_size_eq_zero (by simp)]
  ·exact VRep.own (g := fun _ => (w.heap.size, 0)) _ _ _ (Nat.le_refl _) (by simp only [maxLen]; omega)) ⟨0, .inr ⟨_, _, rfl⟩⟩).stepM
/-- append of nothing. -/
theorem rp_append_none {t e : TypeId} {x y : Operand} {r sz bt n sz' bt' : Nat} {z : Value} {f : Bool} (hu : c.P.underlying t = some (.slice e)) (hi : Inf c.P e sz bt z)
  (ho : o.op = .call { callee := .builtin .append, args := #[x, y], argTypes := #[t, t] }) (hx : s.ev x = some (.own r sz n f)) (hy : s.ev y = some (.d (.sl sz' bt' []))) : RP c o s (.own r sz n f) := fun g a w hs => by
 have h := hs.ev hx
 have h2 := hs.ev hy
 obtain ⟨i, hi1, hi2, hi3, hi4⟩ := hi.out
 obtain ⟨ad, cap, hyv⟩ : ∃ ad cap, a.eval y = .slice ad 0 cap := by
  generalize a.eval y = u at h2
  cases h2 with
  | d _ _ h => cases h with | sl _ _ _ ad cap => exact ⟨ad, cap, rfl⟩
 refine ⟨a.eval x, h, fun w' => ?_⟩
 generalize hxx : a.eval x = u at h
 have hsrc : Src c.P i.size t (.slice ad 0 cap) 0 [] w' := by
  cases ad
  ·exact ⟨.inl ⟨e, hu⟩, fun _ => rfl, by simp [Builtin.firstCells, Sem.run], by simp [Builtin.firstCells, Sem.run], by simp, by simp⟩
  ·exact ⟨.inl ⟨e, hu⟩, fun _ => rfl, by simp [Builtin.firstCells, Sem.run, loadCells, loadCellsFrom], by simp [Builtin.firstCells, Sem.run, loadCells, loadCellsFrom], by simp, by simp⟩
 cases h with
 | own _ _ _ hn hcap =>
  simp only [execOp, ho, resolve, invoke, builtin, Sem.run_bind, Sem.run_pure, Result.andThen_ok, List.map_toArray, List.map_cons, List.map_nil, hxx, hyv]
  rw [run_append_nothing w' t t o.type e i hu hi1 _ n (g r).2 hn _ hsrc]
  rfl
 | ownNil =>
  simp only [execOp, ho, resolve, invoke, builtin, Sem.run_bind, Sem.run_pure, Result.andThen_ok, List.map_toArray, List.map_cons, List.map_nil, hxx, hyv]
  rw [run_append_nothing w' t t o.type e i hu hi1 none 0 0 (Nat.le_refl _) _ hsrc]
  rfl
/-- append of the cells of plain data onto a slice of the call's own. -/
theorem st_appendD {α : Type} {l : List α} {enc : α → D} {t e : TypeId} {x y : Operand} {r bt bt' n : Nat} {z : Value} {f : Bool} {row : Row} {l1 : List V} (hu : c.P.underlying t = some (.slice e)) (hi : Inf c.P e 1 bt z) (hzs : z.cells.size = 1)
  (ho : o.op = .call { callee := .builtin .append, args := #[x, y], argTypes := #[t, t] }) (hx : s.ev x = some (.own r 1 n f)) (hr : fnd s.H r = some row) (hf : row.nil = f) (hrz : row.sz = 1) (hty : row.ty = e)
  (hl : row.cells.take (n * 1) = l1) (hl1 : l1.length = n * 1) (hc1 : V.hasL r l1 = false) (hy : s.ev y = some (.d (.sl 1 bt' (l.map fun x => [enc x])))) (hone : ∀ x, (enc x).one = true) (hm : 0 < l.length) (h63 : n + l.length ≤ 140737488355328) (hbt : (n + l.length) * bt ≤ 140737488355328) (hd : dok s o = true) :
  Step c o s (fun s' => s' = S.put ⟨s.n, (s.forget r).T, (r, ⟨e, l1 ++ l.map (fun x => V.d (enc x)), false, 1⟩) :: (s.forget r).H, (s.forget r).K⟩ o.dst (.own r 1 (n + l.length) false)) :=
 st_append_any (news := l.map (fun x => V.d (enc x))) hu hi hzs (by omega) ho hx hr hf hrz hty hl hl1 hc1 (by simp) (by simp) hm h63 hbt hd (fun g a w hs => by
  have h := hs.ev hy
  generalize a.eval y = u at h
  cases h with
  | d _ _ h =>
   cases h with
   | sl _ _ _ ad cap b o' F ha hl hc hr =>
    obtain ⟨rfl, hq, hb⟩ := ha (by intro e; simp at e; subst e; simp at hm)
    refine ⟨⟨b, o', none⟩, cap, (List.range l.length).map fun k => F k 0, by simp, by simp, fun j u hu => ?_, fun u hu => ?_, fun j u x hu hx => ?_⟩
    ·rw [List.getElem?_map] at hu
     by_cases hj : j < l.length
     ·rw [List.getElem?_range hj] at hu
      simp only [Option.map_some, Option.some.injEq] at hu
      subst hu
      rw [addr_add]
      have := hc j 0 [enc l[j]] (enc l[j]) (by simp [hj]) rfl
      simpa using this
     ·rw [List.getElem?_eq_none (by simpa using hj)] at hu; cases hu
    ·obtain ⟨k, hk, rfl⟩ := List.mem_map.1 hu
     have hk' : k < l.length := by simpa using hk
     exact (hr k 0 [enc l[k]] (enc l[k]) (by simp [hk']) rfl).one (hone _)
    ·rw [List.getElem?_map] at hu hx
     by_cases hj : j < l.length
     ·rw [List.getElem?_range hj] at hx
      rw [List.getElem?_eq_getElem hj] at hu
      simp only [Option.map_some, Option.some.injEq] at hx hu
      subst hu hx
      exact .d _ _ (hr j 0 [enc l[j]] (enc l[j]) (by simp [hj]) rfl)
     ·rw [List.getElem?_eq_none (by simpa using hj)] at hx; cases hx)
end
theorem am_isNaN (x : Int) : Fn Try.prog 125 [.i x] (fun v => v = .b false) := by
 refine Fn.intro (n := 6) ⟨Try.func125, rfl, rfl, rfl, rfl⟩ (by simp [V.pure, V.has, V.hasL]) (by simp) fun w0 out => ?_
 refine AW.seq ?_
 refine AW.region ?_
 refine AL.rp rfl rfl (rp_assign rfl rfl) ?_
 refine AL.nil ?_
 try simp only [thenS, S.put, enum, List.nil_append, List.cons_append, List.append_nil, Nat.zero_add, Nat.reduceAdd]
 refine AW.seq ?_
 refine AW.region ?_
 refine AL.rp rfl rfl (rp_move rfl rfl) ?_
 refine AL.rp rfl rfl (rp_move rfl rfl) ?_
 (first | (refine AL.rp rfl rfl (rp_neqT rfl rfl rfl (by first | assumption | omega | (dsimp only; omega))) ?_) | (refine AL.rp rfl rfl (rp_neqF rfl rfl rfl (by first | assumption | omega | (dsimp only; omega))) ?_) | (refine AL.rp rfl rfl (rp_neq rfl rfl rfl) ?_))
 refine AL.rp rfl rfl (rp_assign rfl rfl) ?_
 refine AL.nil ?_
 try simp only [thenS, S.put]
 refine AW.ret ?_
 exact ⟨[_], ⟨rfl, trivial⟩, rfl, by simp [tupOf, V.pure, V.has]⟩
theorem am_cmp (x y : Int) : Fn Try.prog 111 [.i x, .i y] (fun v => v = .i (cmpI x y)) := by
 refine Fn.intro (n := 20) ⟨Try.func111, rfl, rfl, rfl, rfl⟩ (by simp [V.pure, V.has, V.hasL]) (by simp) fun w0 out => ?_
 by_cases h1 : x < y
 ·skip
  refine AW.seq ?_
  refine AW.region ?_
  refine AL.rp rfl rfl (rp_assign rfl rfl) ?_
  refine AL.nil ?_
  try simp only [thenS, S.put, enum, List.nil_append, List.cons_append, List.append_nil, Nat.zero_add, Nat.reduceAdd]
  refine AW.seq ?_
  refine AW.region ?_
  refine AL.rp rfl rfl (rp_move rfl rfl) ?_
  refine AL.call (post := ?pc63) rfl (sm_call (args := [_]) ?hc63 ⟨Try.func125, rfl, rfl, rfl, rfl⟩ rfl rfl rfl rfl) ?_
  case hc63 => exact am_isNaN _
  rintro _ rfl -
  try dsimp only
  refine AL.rp rfl rfl (rp_assign rfl rfl) ?_
  refine AL.nil ?_
  try simp only [thenS, S.put, S.newObj, setL, V.cs, List.length_cons, List.length_nil, List.take_succ_cons, List.take_zero, List.drop_succ_cons, List.drop_zero, List.drop_nil, List.nil_append, List.cons_append, List.append_nil, Nat.zero_add, Nat.reduceAdd, List.map_cons, List.map_nil, List.set_cons_zero, List.set_cons_succ]
  refine AW.seq ?_
  refine AW.region ?_
  refine AL.rp rfl rfl (rp_move rfl rfl) ?_
  refine AL.call (post := ?pc64) rfl (sm_call (args := [_]) ?hc64 ⟨Try.func125, rfl, rfl, rfl, rfl⟩ rfl rfl rfl rfl) ?_
  case hc64 => exact am_isNaN _
  rintro _ rfl -
  try dsimp only
  refine AL.rp rfl rfl (rp_assign rfl rfl) ?_
  refine AL.nil ?_
  try simp only [thenS, S.put, S.newObj, setL, V.cs, List.length_cons, List.length_nil, List.take_succ_cons, List.take_zero, List.drop_succ_cons, List.drop_zero, List.drop_nil, List.nil_append, List.cons_append, List.append_nil, Nat.zero_add, Nat.reduceAdd, List.map_cons, List.map_nil, List.set_cons_zero, List.set_cons_succ]
  refine AW.seq ?_
  refine AW.seq ?_
  refine AW.region ?_
  refine AL.rp rfl rfl (rp_move rfl rfl) ?_
  refine AL.nil ?_
  try simp only [thenS, S.put]
  refine AW.condF rfl ?_
  refine AW.skip ?_
  try simp only [thenS]
  refine AW.seq ?_
  refine AW.seq ?_
  refine AW.region ?_
  refine AL.rp rfl rfl (rp_move rfl rfl) ?_
  refine AL.nil ?_
  try simp only [thenS, S.put]
  refine AW.condF rfl ?_
  refine AW.skip ?_
  try simp only [thenS]
  refine AW.seq ?_
  refine AW.seq ?_
  refine AW.region ?_
  refine AL.rp rfl rfl (rp_move rfl rfl) ?_
  refine AL.rp rfl rfl (rp_move rfl rfl) ?_
  (first | (refine AL.rp rfl rfl (rp_lssT rfl rfl rfl (by first | assumption | omega | (dsimp only; omega))) ?_) | (refine AL.rp rfl rfl (rp_lssF rfl rfl rfl (by first | assumption | omega | (dsimp only; omega))) ?_) | (refine AL.rp rfl rfl (rp_lss rfl rfl rfl) ?_))
  refine AL.nil ?_
  try simp only [thenS, S.put]
  refine AW.condT rfl ?_
  refine AW.seq ?_
  refine AW.region ?_
  refine AL.rp rfl rfl (rp_assign rfl rfl) ?_
  refine AL.nil ?_
  try simp only [thenS, S.put]
  refine AW.ret ?_
  exact ⟨[_], ⟨rfl, trivial⟩, by simp [tupOf, cmpI, h1], by simp [tupOf, V.pure, V.has]⟩
 ·by_cases h2 : y < x
  ·skip
   refine AW.seq ?_
   refine AW.region ?_
   refine AL.rp rfl rfl (rp_assign rfl rfl) ?_
   refine AL.nil ?_
   try simp only [thenS, S.put, enum, List.nil_append, List.cons_append, List.append_nil, Nat.zero_add, Nat.reduceAdd]
   refine AW.seq ?_
   refine AW.region ?_
   refine AL.rp rfl rfl (rp_move rfl rfl) ?_
   refine AL.call (post := ?pc65) rfl (sm_call (args := [_]) ?hc65 ⟨Try.func125, rfl, rfl, rfl, rfl⟩ rfl rfl rfl rfl) ?_
   case hc65 => exact am_isNaN _
   rintro _ rfl -
   try dsimp only
   refine AL.rp rfl rfl (rp_assign rfl rfl) ?_
   refine AL.nil ?_
   try simp only [thenS, S.put, S.newObj, setL, V.cs, List.length_cons, List.length_nil, List.take_succ_cons, List.take_zero, List.drop_succ_cons, List.drop_zero, List.drop_nil, List.nil_append, List.cons_append, List.append_nil, Nat.zero_add, Nat.reduceAdd, List.map_cons, List.map_nil, List.set_cons_zero, List.set_cons_succ]
   refine AW.seq ?_
   refine AW.region ?_
   refine AL.rp rfl rfl (rp_move rfl rfl) ?_
   refine AL.call (post := ?pc66) rfl (sm_call (args := [_]) ?hc66 ⟨Try.func125, rfl, rfl, rfl, rfl⟩ rfl rfl rfl rfl) ?_
   case hc66 => exact am_isNaN _
   rintro _ rfl -
   try dsimp only
   refine AL.rp rfl rfl (rp_assign rfl rfl) ?_
   refine AL.nil ?_
   try simp only [thenS, S.put, S.newObj, setL, V.cs, List.length_cons, List.length_nil, List.take_succ_cons, List.take_zero, List.drop_succ_cons, List.drop_zero, List.drop_nil, List.nil_append, List.cons_append, List.append_nil, Nat.zero_add, Nat.reduceAdd, List.map_cons, List.map_nil, List.set_cons_zero, List.set_cons_succ]
   refine AW.seq ?_
   refine AW.seq ?_
   refine AW.region ?_
   refine AL.rp rfl rfl (rp_move rfl rfl) ?_
   refine AL.nil ?_
   try simp only [thenS, S.put]
   refine AW.condF rfl ?_
   refine AW.skip ?_
   try simp only [thenS]
   refine AW.seq ?_
   refine AW.seq ?_
   refine AW.region ?_
   refine AL.rp rfl rfl (rp_move rfl rfl) ?_
   refine AL.nil ?_
   try simp only [thenS, S.put]
   refine AW.condF rfl ?_
   refine AW.skip ?_
   try simp only [thenS]
   refine AW.seq ?_
   refine AW.seq ?_
   refine AW.region ?_
   refine AL.rp rfl rfl (rp_move rfl rfl) ?_
   refine AL.rp rfl rfl (rp_move rfl rfl) ?_
   (first | (refine AL.rp rfl rfl (rp_lssT rfl rfl rfl (by first | assumption | omega | (dsimp only; omega))) ?_) | (refine AL.rp rfl rfl (rp_lssF rfl rfl rfl (by first | assumption | omega | (dsimp only; omega))) ?_) | (refine AL.rp rfl rfl (rp_lss rfl rfl rfl) ?_))
   refine AL.nil ?_
   try simp only [thenS, S.put]
   refine AW.condF rfl ?_
   refine AW.skip ?_
   try simp only [thenS]
   refine AW.seq ?_
   refine AW.seq ?_
   refine AW.region ?_
   refine AL.rp rfl rfl (rp_move rfl rfl) ?_
   refine AL.rp rfl rfl (rp_move rfl rfl) ?_
   (first | (refine AL.rp rfl rfl (rp_gtrT rfl rfl rfl (by first | assumption | omega | (dsimp only; omega))) ?_) | (refine AL.rp rfl rfl (rp_gtrF rfl rfl rfl (by first | assumption | omega | (dsimp only; omega))) ?_) | (refine AL.rp rfl rfl (rp_gtr rfl rfl rfl) ?_))
   refine AL.nil ?_
   try simp only [thenS, S.put]
   refine AW.condT rfl ?_
   refine AW.seq ?_
   refine AW.region ?_
   refine AL.rp rfl rfl (rp_assign rfl rfl) ?_
   refine AL.nil ?_
   try simp only [thenS, S.put]
   refine AW.ret ?_
   exact ⟨[_], ⟨rfl, trivial⟩, by simp [tupOf, cmpI, h1, h2], by simp [tupOf, V.pure, V.has]⟩
  ·skip
   refine AW.seq ?_
   refine AW.region ?_
   refine AL.rp rfl rfl (rp_assign rfl rfl) ?_
   refine AL.nil ?_
   try simp only [thenS, S.put, enum, List.nil_append, List.cons_append, List.append_nil, Nat.zero_add, Nat.reduceAdd]
   refine AW.seq ?_
   refine AW.region ?_
   refine AL.rp rfl rfl (rp_move rfl rfl) ?_
   refine AL.call (post := ?pc67) rfl (sm_call (args := [_]) ?hc67 ⟨Try.func125, rfl, rfl, rfl, rfl⟩ rfl rfl rfl rfl) ?_
   case hc67 => exact am_isNaN _
   rintro _ rfl -
   try dsimp only
   refine AL.rp rfl rfl (rp_assign rfl rfl) ?_
   refine AL.nil ?_
   try simp only [thenS, S.put, S.newObj, setL, V.cs, List.length_cons, List.length_nil, List.take_succ_cons, List.take_zero, List.drop_succ_cons, List.drop_zero, List.drop_nil, List.nil_append, List.cons_append, List.append_nil, Nat.zero_add, Nat.reduceAdd, List.map_cons, List.map_nil, List.set_cons_zero, List.set_cons_succ]
   refine AW.seq ?_
   refine AW.region ?_
   refine AL.rp rfl rfl (rp_move rfl rfl) ?_
   refine AL.call (post := ?pc68) rfl (sm_call (args := [_]) ?hc68 ⟨Try.func125, rfl, rfl, rfl, rfl⟩ rfl rfl rfl rfl) ?_
   case hc68 => exact am_isNaN _
   rintro _ rfl -
   try dsimp only
   refine AL.rp rfl rfl (rp_assign rfl rfl) ?_
   refine AL.nil ?_
   try simp only [thenS, S.put, S.newObj, setL, V.cs, List.length_cons, List.length_nil, List.take_succ_cons, List.take_zero, List.drop_succ_cons, List.drop_zero, List.drop_nil, List.nil_append, List.cons_append, List.append_nil, Nat.zero_add, Nat.reduceAdd, List.map_cons, List.map_nil, List.set_cons_zero, List.set_cons_succ]
   refine AW.seq ?_
   refine AW.seq ?_
   refine AW.region ?_
   refine AL.rp rfl rfl (rp_move rfl rfl) ?_
   refine AL.nil ?_
   try simp only [thenS, S.put]
   refine AW.condF rfl ?_
   refine AW.skip ?_
   try simp only [thenS]
   refine AW.seq ?_
   refine AW.seq ?_
   refine AW.region ?_
   refine AL.rp rfl rfl (rp_move rfl rfl) ?_
   refine AL.nil ?_
   try simp only [thenS, S.put]
   refine AW.condF rfl ?_
   refine AW.skip ?_
   try simp only [thenS]
   refine AW.seq ?_
   refine AW.seq ?_
   refine AW.region ?_
   refine AL.rp rfl rfl (rp_move rfl rfl) ?_
   refine AL.rp rfl rfl (rp_move rfl rfl) ?_
   (first | (refine AL.rp rfl rfl (rp_lssT rfl rfl rfl (by first | assumption | omega | (dsimp only; omega))) ?_) | (refine AL.rp rfl rfl (rp_lssF rfl rfl rfl (by first | assumption | omega | (dsimp only; omega))) ?_) | (refine AL.rp rfl rfl (rp_lss rfl rfl rfl) ?_))
   refine AL.nil ?_
   try simp only [thenS, S.put]
   refine AW.condF rfl ?_
   refine AW.skip ?_
   try simp only [thenS]
   refine AW.seq ?_
   refine AW.seq ?_
   refine AW.region ?_
   refine AL.rp rfl rfl (rp_move rfl rfl) ?_
   refine AL.rp rfl rfl (rp_move rfl rfl) ?_
   (first | (refine AL.rp rfl rfl (rp_gtrT rfl rfl rfl (by first | assumption | omega | (dsimp only; omega))) ?_) | (refine AL.rp rfl rfl (rp_gtrF rfl rfl rfl (by first | assumption | omega | (dsimp only; omega))) ?_) | (refine AL.rp rfl rfl (rp_gtr rfl rfl rfl) ?_))
   refine AL.nil ?_
   try simp only [thenS, S.put]
   refine AW.condF rfl ?_
   refine AW.skip ?_
   try simp only [thenS]
   refine AW.seq ?_
   refine AW.region ?_
   refine AL.rp rfl rfl (rp_assign rfl rfl) ?_
   refine AL.nil ?_
   try simp only [thenS, S.put]
   refine AW.ret ?_
   exact ⟨[_], ⟨rfl, trivial⟩, by simp [tupOf, cmpI, h1, h2], by simp [tupOf, V.pure, V.has]⟩
theorem am_lexC (l m : List Int) : Fn Try.prog 78 [.d (intsD l), .d (intsD m)] (fun v => v = .i (lexC l m)) := by
 refine Fn.sl 0 rfl fun hb => ?_
 obtain ⟨len, hn⟩ : ∃ n, l.length = n := ⟨_, rfl⟩
 obtain ⟨len2, hn2⟩ : ∃ n, m.length = n := ⟨_, rfl⟩
 rw [List.length_map, hn] at hb
 refine Fn.intro (n := 36) ⟨Try.func78, rfl, rfl, rfl, rfl⟩ (by simp [V.pure, V.has, V.hasL]) (by simp) fun w0 out => ?_
 refine AW.seq ?_
 refine AW.region ?_
 refine AL.rp rfl rfl (rp_assign rfl rfl) ?_
 refine AL.nil ?_
 try simp only [thenS, S.put, enum, List.nil_append, List.cons_append, List.append_nil, Nat.zero_add, Nat.reduceAdd]
 refine AW.seq ?_
 refine AW.seq ?_
 refine AW.region ?_
 refine AL.rp rfl rfl (rp_move rfl rfl) ?_
 (first | (refine AL.rp rfl rfl (rp_len_map Try.underlying40 rfl rfl (by assumption)) ?_) | (refine AL.rp rfl rfl (rp_len_own Try.underlying40 rfl rfl) ?_) | (refine AL.rp rfl rfl (rp_len_sl Try.underlying40 rfl rfl) ?_) | (refine AL.rp rfl rfl (rp_len_nil Try.underlying40 rfl rfl) ?_) | (refine AL.rp rfl rfl (rp_len_str Try.underlying40 rfl rfl) ?_))
 refine AL.rp rfl rfl (rp_move rfl rfl) ?_
 refine AL.nil ?_
 try simp only [thenS, S.put]
 refine AW.block ?_
 refine AW.loop (fun s' => ∃ k : Nat, k ≤ len ∧ k ≤ len2 ∧ l.take k = m.take k ∧ s' = ⟨36, [(0, .d (intsD l)), (1, .d (intsD m)), (9, .d (intsD l)), (10, .i len), (11, .i k)], [], []⟩) (fun s' => len - s'.nat 11) ⟨_, ?_, 0, by omega, by omega, by simp, rfl⟩ ?_
 ·exact (Less.of rfl (by repeat (first | exact trivial | refine ⟨⟨_, rfl, Wk.refl _⟩, ?_⟩ | refine ⟨⟨_, rfl, Wk.nil _ _⟩, ?_⟩ | refine ⟨⟨_, rfl, Wk.junk _⟩, ?_⟩)) (by repeat (first | exact trivial | refine ⟨rfl, ?_⟩)) rfl)
 rintro s' ⟨k, hk, hk2, htk, rfl⟩
 by_cases hlt : k < len
 ·obtain ⟨x, hx⟩ := get_lt hn hlt
  by_cases hlt2 : k < len2
  ·obtain ⟨y, hy⟩ := get_lt hn2 hlt2
   by_cases hxy : x = y
   ·subst hxy
    refine AW.seq ?_
    refine AW.region ?_
    (first | (refine AL.rp rfl rfl (rp_lssT rfl rfl rfl (by first | assumption | omega | (dsimp only; omega))) ?_) | (refine AL.rp rfl rfl (rp_lssF rfl rfl rfl (by first | assumption | omega | (dsimp only; omega))) ?_) | (refine AL.rp rfl rfl (rp_lss rfl rfl rfl) ?_))
    refine AL.nil ?_
    try simp only [thenS, S.put]
    refine AW.seq ?_
    refine AW.condT rfl ?_
    refine AW.skip ?_
    try simp only [thenS]
    refine AW.seq ?_
    refine AW.block ?_
    refine AW.seq ?_
    refine AW.region ?_
    refine AL.rp rfl rfl (rp_move rfl rfl) ?_
    (first | (refine AL.rp rfl rfl (rp_index_map Try.underlying40 inf3 rfl rfl rfl rfl (by assumption)) ?_) | (refine AL.rp rfl rfl (rp_index_own Try.underlying40 inf3 rfl rfl rfl rfl (by first | assumption | omega)) ?_) | (refine AL.rp rfl rfl (rd_index_sl Try.underlying40 inf3 rfl rfl rfl rfl (by assumption)) ?_) | (refine AL.rp rfl rfl (rp_index_own Try.underlying40 inf3 rfl rfl rfl (by omega) (by omega)) ?_))
    (first | (refine AL.rd rfl rfl (rd_load_ref Try.underlying3 rfl rfl rfl rfl rfl rfl) ?_) | (refine AL.rd rfl rfl (rd_load_ad Try.underlying3 rfl rfl rfl rfl) ?_) | (refine AL.rd rfl rfl (rd_load_map Try.underlying3 rfl rfl rfl rfl rfl rfl (by assumption)) ?_) | (refine AL.rd rfl rfl (rd_load_flat Try.underlying3 rfl rfl rfl rfl rfl rfl (fun _ => rfl) (by assumption) rfl) ?_))
    refine AL.rp rfl rfl (rp_assign rfl rfl) ?_
    refine AL.rp rfl rfl (rp_assign rfl rfl) ?_
    refine AL.nil ?_
    try simp only [thenS, S.put]
    refine AW.seq ?_
    refine AW.seq ?_
    refine AW.region ?_
    refine AL.rp rfl rfl (rp_move rfl rfl) ?_
    refine AL.rp rfl rfl (rp_move rfl rfl) ?_
    (first | (refine AL.rp rfl rfl (rp_len_map Try.underlying40 rfl rfl (by assumption)) ?_) | (refine AL.rp rfl rfl (rp_len_own Try.underlying40 rfl rfl) ?_) | (refine AL.rp rfl rfl (rp_len_sl Try.underlying40 rfl rfl) ?_) | (refine AL.rp rfl rfl (rp_len_nil Try.underlying40 rfl rfl) ?_) | (refine AL.rp rfl rfl (rp_len_str Try.underlying40 rfl rfl) ?_))
    (first | (refine AL.rp rfl rfl (rp_geqT rfl rfl rfl (by first | assumption | omega | (dsimp only; omega))) ?_) | (refine AL.rp rfl rfl (rp_geqF rfl rfl rfl (by first | assumption | omega | (dsimp only; omega))) ?_) | (refine AL.rp rfl rfl (rp_geq rfl rfl rfl) ?_))
    refine AL.nil ?_
    try simp only [thenS, S.put]
    refine AW.condF rfl ?_
    refine AW.skip ?_
    try simp only [thenS]
    refine AW.seq ?_
    refine AW.region ?_
    refine AL.rp rfl rfl (rp_move rfl rfl) ?_
    refine AL.rp rfl rfl (rp_move rfl rfl) ?_
    (first | (refine AL.rp rfl rfl (rp_index_map Try.underlying40 inf3 rfl rfl rfl rfl (by assumption)) ?_) | (refine AL.rp rfl rfl (rp_index_own Try.underlying40 inf3 rfl rfl rfl rfl (by first | assumption | omega)) ?_) | (refine AL.rp rfl rfl (rd_index_sl Try.underlying40 inf3 rfl rfl rfl rfl (by assumption)) ?_) | (refine AL.rp rfl rfl (rp_index_own Try.underlying40 inf3 rfl rfl rfl (by omega) (by omega)) ?_))
    (first | (refine AL.rd rfl rfl (rd_load_ref Try.underlying3 rfl rfl rfl rfl rfl rfl) ?_) | (refine AL.rd rfl rfl (rd_load_ad Try.underlying3 rfl rfl rfl rfl) ?_) | (refine AL.rd rfl rfl (rd_load_map Try.underlying3 rfl rfl rfl rfl rfl rfl (by assumption)) ?_) | (refine AL.rd rfl rfl (rd_load_flat Try.underlying3 rfl rfl rfl rfl rfl rfl (fun _ => rfl) (by assumption) rfl) ?_))
    refine AL.rp rfl rfl (rp_assign rfl rfl) ?_
    refine AL.nil ?_
    try simp only [thenS, S.put]
    refine AW.seq ?_
    refine AW.region ?_
    refine AL.rp rfl rfl (rp_move rfl rfl) ?_
    refine AL.rp rfl rfl (rp_move rfl rfl) ?_
    refine AL.call (post := ?pc69) rfl (sm_call (args := [_, _]) ?hc69 ⟨Try.func111, rfl, rfl, rfl, rfl⟩ rfl rfl rfl rfl) ?_
    case hc69 => exact Fn.eqv (am_cmp x x) (by rw [cmpI_self])
    rintro _ rfl -
    try dsimp only
    refine AL.rp rfl rfl (rp_assign rfl rfl) ?_
    refine AL.nil ?_
    try simp only [thenS, S.put, S.newObj, setL, V.cs, List.length_cons, List.length_nil, List.take_succ_cons, List.take_zero, List.drop_succ_cons, List.drop_zero, List.drop_nil, List.nil_append, List.cons_append, List.append_nil, Nat.zero_add, Nat.reduceAdd, List.map_cons, List.map_nil, List.set_cons_zero, List.set_cons_succ]
    refine AW.seq ?_
    refine AW.region ?_
    refine AL.rp rfl rfl (rp_move rfl rfl) ?_
    (first | (refine AL.rp rfl rfl (rp_neqT rfl rfl rfl (by first | assumption | omega | (dsimp only; omega))) ?_) | (refine AL.rp rfl rfl (rp_neqF rfl rfl rfl (by first | assumption | omega | (dsimp only; omega))) ?_) | (refine AL.rp rfl rfl (rp_neq rfl rfl rfl) ?_))
    refine AL.nil ?_
    try simp only [thenS, S.put]
    refine AW.condF rfl ?_
    refine AW.skip ?_
    try simp only [thenS]
    refine AW.region ?_
    refine AL.rp rfl rfl (rp_add rfl rfl rfl (by first | omega | (dsimp only; omega))) ?_
    refine AL.rp rfl rfl (rp_move rfl rfl) ?_
    refine AL.nil ?_
    try simp only [thenS, S.put]
    refine ⟨_, ?_, ⟨k + 1, by omega, by omega, take_both htk hx hy, rfl⟩, ?_⟩
    ·exact (Less.of rfl (by repeat (first | exact trivial | refine ⟨⟨_, rfl, Wk.refl _⟩, ?_⟩ | refine ⟨⟨_, rfl, Wk.nil _ _⟩, ?_⟩ | refine ⟨⟨_, rfl, Wk.junk _⟩, ?_⟩)) (by repeat (first | exact trivial | refine ⟨rfl, ?_⟩)) rfl)
    ·simp [S.nat, fnd]; omega
   ·have hne := cmpI_ne hxy
    have hE := lexC_diff htk hx hy hxy
    refine AW.seq ?_
    refine AW.region ?_
    (first | (refine AL.rp rfl rfl (rp_lssT rfl rfl rfl (by first | assumption | omega | (dsimp only; omega))) ?_) | (refine AL.rp rfl rfl (rp_lssF rfl rfl rfl (by first | assumption | omega | (dsimp only; omega))) ?_) | (refine AL.rp rfl rfl (rp_lss rfl rfl rfl) ?_))
    refine AL.nil ?_
    try simp only [thenS, S.put]
    refine AW.seq ?_
    refine AW.condT rfl ?_
    refine AW.skip ?_
    try simp only [thenS]
    refine AW.seq ?_
    refine AW.block ?_
    refine AW.seq ?_
    refine AW.region ?_
    refine AL.rp rfl rfl (rp_move rfl rfl) ?_
    (first | (refine AL.rp rfl rfl (rp_index_map Try.underlying40 inf3 rfl rfl rfl rfl (by assumption)) ?_) | (refine AL.rp rfl rfl (rp_index_own Try.underlying40 inf3 rfl rfl rfl rfl (by first | assumption | omega)) ?_) | (refine AL.rp rfl rfl (rd_index_sl Try.underlying40 inf3 rfl rfl rfl rfl (by assumption)) ?_) | (refine AL.rp rfl rfl (rp_index_own Try.underlying40 inf3 rfl rfl rfl (by omega) (by omega)) ?_))
    (first | (refine AL.rd rfl rfl (rd_load_ref Try.underlying3 rfl rfl rfl rfl rfl rfl) ?_) | (refine AL.rd rfl rfl (rd_load_ad Try.underlying3 rfl rfl rfl rfl) ?_) | (refine AL.rd rfl rfl (rd_load_map Try.underlying3 rfl rfl rfl rfl rfl rfl (by assumption)) ?_) | (refine AL.rd rfl rfl (rd_load_flat Try.underlying3 rfl rfl rfl rfl rfl rfl (fun _ => rfl) (by assumption) rfl) ?_))
    refine AL.rp rfl rfl (rp_assign rfl rfl) ?_
    refine AL.rp rfl rfl (rp_assign rfl rfl) ?_
    refine AL.nil ?_
    try simp only [thenS, S.put]
    refine AW.seq ?_
    refine AW.seq ?_
    refine AW.region ?_
    refine AL.rp rfl rfl (rp_move rfl rfl) ?_
    refine AL.rp rfl rfl (rp_move rfl rfl) ?_
    (first | (refine AL.rp rfl rfl (rp_len_map Try.underlying40 rfl rfl (by assumption)) ?_) | (refine AL.rp rfl rfl (rp_len_own Try.underlying40 rfl rfl) ?_) | (refine AL.rp rfl rfl (rp_len_sl Try.underlying40 rfl rfl) ?_) | (refine AL.rp rfl rfl (rp_len_nil Try.underlying40 rfl rfl) ?_) | (refine AL.rp rfl rfl (rp_len_str Try.underlying40 rfl rfl) ?_))
    (first | (refine AL.rp rfl rfl (rp_geqT rfl rfl rfl (by first | assumption | omega | (dsimp only; omega))) ?_) | (refine AL.rp rfl rfl (rp_geqF rfl rfl rfl (by first | assumption | omega | (dsimp only; omega))) ?_) | (refine AL.rp rfl rfl (rp_geq rfl rfl rfl) ?_))
    refine AL.nil ?_
    try simp only [thenS, S.put]
    refine AW.condF rfl ?_
    refine AW.skip ?_
    try simp only [thenS]
    refine AW.seq ?_
    refine AW.region ?_
    refine AL.rp rfl rfl (rp_move rfl rfl) ?_
    refine AL.rp rfl rfl (rp_move rfl rfl) ?_
    (first | (refine AL.rp rfl rfl (rp_index_map Try.underlying40 inf3 rfl rfl rfl rfl (by assumption)) ?_) | (refine AL.rp rfl rfl (rp_index_own Try.underlying40 inf3 rfl rfl rfl rfl (by first | assumption | omega)) ?_) | (refine AL.rp rfl rfl (rd_index_sl Try.underlying40 inf3 rfl rfl rfl rfl (by assumption)) ?_) | (refine AL.rp rfl rfl (rp_index_own Try.underlying40 inf3 rfl rfl rfl (by omega) (by omega)) ?_))
    (first | (refine AL.rd rfl rfl (rd_load_ref Try.underlying3 rfl rfl rfl rfl rfl rfl) ?_) | (refine AL.rd rfl rfl (rd_load_ad Try.underlying3 rfl rfl rfl rfl) ?_) | (refine AL.rd rfl rfl (rd_load_map Try.underlying3 rfl rfl rfl rfl rfl rfl (by assumption)) ?_) | (refine AL.rd rfl rfl (rd_load_flat Try.underlying3 rfl rfl rfl rfl rfl rfl (fun _ => rfl) (by assumption) rfl) ?_))
    refine AL.rp rfl rfl (rp_assign rfl rfl) ?_
    refine AL.nil ?_
    try simp only [thenS, S.put]
    refine AW.seq ?_
    refine AW.region ?_
    refine AL.rp rfl rfl (rp_move rfl rfl) ?_
    refine AL.rp rfl rfl (rp_move rfl rfl) ?_
    refine AL.call (post := ?pc70) rfl (sm_call (args := [_, _]) ?hc70 ⟨Try.func111, rfl, rfl, rfl, rfl⟩ rfl rfl rfl rfl) ?_
    case hc70 => exact am_cmp x y
    rintro _ rfl -
    try dsimp only
    refine AL.rp rfl rfl (rp_assign rfl rfl) ?_
    refine AL.nil ?_
    try simp only [thenS, S.put, S.newObj, setL, V.cs, List.length_cons, List.length_nil, List.take_succ_cons, List.take_zero, List.drop_succ_cons, List.drop_zero, List.drop_nil, List.nil_append, List.cons_append, List.append_nil, Nat.zero_add, Nat.reduceAdd, List.map_cons, List.map_nil, List.set_cons_zero, List.set_cons_succ]
    refine AW.seq ?_
    refine AW.region ?_
    refine AL.rp rfl rfl (rp_move rfl rfl) ?_
    (first | (refine AL.rp rfl rfl (rp_neqT rfl rfl rfl (by first | assumption | omega | (dsimp only; omega))) ?_) | (refine AL.rp rfl rfl (rp_neqF rfl rfl rfl (by first | assumption | omega | (dsimp only; omega))) ?_) | (refine AL.rp rfl rfl (rp_neq rfl rfl rfl) ?_))
    refine AL.nil ?_
    try simp only [thenS, S.put]
    refine AW.condT rfl ?_
    refine AW.seq ?_
    refine AW.region ?_
    refine AL.rp rfl rfl (rp_move rfl rfl) ?_
    refine AL.rp rfl rfl (rp_assign rfl rfl) ?_
    refine AL.nil ?_
    try simp only [thenS, S.put]
    refine AW.ret ?_
    exact ⟨[_], ⟨rfl, trivial⟩, by rw [hE]; rfl, by simp [tupOf, V.pure, V.has]⟩
  ·have hE := lexC_long htk (by omega) (show m.length = k by omega)
   refine AW.seq ?_
   refine AW.region ?_
   (first | (refine AL.rp rfl rfl (rp_lssT rfl rfl rfl (by first | assumption | omega | (dsimp only; omega))) ?_) | (refine AL.rp rfl rfl (rp_lssF rfl rfl rfl (by first | assumption | omega | (dsimp only; omega))) ?_) | (refine AL.rp rfl rfl (rp_lss rfl rfl rfl) ?_))
   refine AL.nil ?_
   try simp only [thenS, S.put]
   refine AW.seq ?_
   refine AW.condT rfl ?_
   refine AW.skip ?_
   try simp only [thenS]
   refine AW.seq ?_
   refine AW.block ?_
   refine AW.seq ?_
   refine AW.region ?_
   refine AL.rp rfl rfl (rp_move rfl rfl) ?_
   (first | (refine AL.rp rfl rfl (rp_index_map Try.underlying40 inf3 rfl rfl rfl rfl (by assumption)) ?_) | (refine AL.rp rfl rfl (rp_index_own Try.underlying40 inf3 rfl rfl rfl rfl (by first | assumption | omega)) ?_) | (refine AL.rp rfl rfl (rd_index_sl Try.underlying40 inf3 rfl rfl rfl rfl (by assumption)) ?_) | (refine AL.rp rfl rfl (rp_index_own Try.underlying40 inf3 rfl rfl rfl (by omega) (by omega)) ?_))
   (first | (refine AL.rd rfl rfl (rd_load_ref Try.underlying3 rfl rfl rfl rfl rfl rfl) ?_) | (refine AL.rd rfl rfl (rd_load_ad Try.underlying3 rfl rfl rfl rfl) ?_) | (refine AL.rd rfl rfl (rd_load_map Try.underlying3 rfl rfl rfl rfl rfl rfl (by assumption)) ?_) | (refine AL.rd rfl rfl (rd_load_flat Try.underlying3 rfl rfl rfl rfl rfl rfl (fun _ => rfl) (by assumption) rfl) ?_))
   refine AL.rp rfl rfl (rp_assign rfl rfl) ?_
   refine AL.rp rfl rfl (rp_assign rfl rfl) ?_
   refine AL.nil ?_
   try simp only [thenS, S.put]
   refine AW.seq ?_
   refine AW.seq ?_
   refine AW.region ?_
   refine AL.rp rfl rfl (rp_move rfl rfl) ?_
   refine AL.rp rfl rfl (rp_move rfl rfl) ?_
   (first | (refine AL.rp rfl rfl (rp_len_map Try.underlying40 rfl rfl (by assumption)) ?_) | (refine AL.rp rfl rfl (rp_len_own Try.underlying40 rfl rfl) ?_) | (refine AL.rp rfl rfl (rp_len_sl Try.underlying40 rfl rfl) ?_) | (refine AL.rp rfl rfl (rp_len_nil Try.underlying40 rfl rfl) ?_) | (refine AL.rp rfl rfl (rp_len_str Try.underlying40 rfl rfl) ?_))
   (first | (refine AL.rp rfl rfl (rp_geqT rfl rfl rfl (by first | assumption | omega | (dsimp only; omega))) ?_) | (refine AL.rp rfl rfl (rp_geqF rfl rfl rfl (by first | assumption | omega | (dsimp only; omega))) ?_) | (refine AL.rp rfl rfl (rp_geq rfl rfl rfl) ?_))
   refine AL.nil ?_
   try simp only [thenS, S.put]
   refine AW.condT rfl ?_
   refine AW.seq ?_
   refine AW.region ?_
   refine AL.rp rfl rfl (rp_assign rfl rfl) ?_
   refine AL.nil ?_
   try simp only [thenS, S.put]
   refine AW.ret ?_
   exact ⟨[_], ⟨rfl, trivial⟩, by rw [hE]; rfl, by simp [tupOf, V.pure, V.has]⟩
 ·by_cases hlt2 : k < len2
  ·have hE := lexC_short htk (show l.length = k by omega) (by omega)
   refine AW.seq ?_
   refine AW.region ?_
   (first | (refine AL.rp rfl rfl (rp_lssT rfl rfl rfl (by first | assumption | omega | (dsimp only; omega))) ?_) | (refine AL.rp rfl rfl (rp_lssF rfl rfl rfl (by first | assumption | omega | (dsimp only; omega))) ?_) | (refine AL.rp rfl rfl (rp_lss rfl rfl rfl) ?_))
   refine AL.nil ?_
   try simp only [thenS, S.put]
   refine AW.seq ?_
   refine AW.condF rfl ?_
   refine AW.exit ?_
   try simp only [thenS, inBlockS, ↓reduceIte, Nat.reduceEqDiff]
   refine AW.seq ?_
   refine AW.seq ?_
   refine AW.region ?_
   refine AL.rp rfl rfl (rp_move rfl rfl) ?_
   (first | (refine AL.rp rfl rfl (rp_len_map Try.underlying40 rfl rfl (by assumption)) ?_) | (refine AL.rp rfl rfl (rp_len_own Try.underlying40 rfl rfl) ?_) | (refine AL.rp rfl rfl (rp_len_sl Try.underlying40 rfl rfl) ?_) | (refine AL.rp rfl rfl (rp_len_nil Try.underlying40 rfl rfl) ?_) | (refine AL.rp rfl rfl (rp_len_str Try.underlying40 rfl rfl) ?_))
   refine AL.rp rfl rfl (rp_move rfl rfl) ?_
   (first | (refine AL.rp rfl rfl (rp_len_map Try.underlying40 rfl rfl (by assumption)) ?_) | (refine AL.rp rfl rfl (rp_len_own Try.underlying40 rfl rfl) ?_) | (refine AL.rp rfl rfl (rp_len_sl Try.underlying40 rfl rfl) ?_) | (refine AL.rp rfl rfl (rp_len_nil Try.underlying40 rfl rfl) ?_) | (refine AL.rp rfl rfl (rp_len_str Try.underlying40 rfl rfl) ?_))
   (first | (refine AL.rp rfl rfl (rp_lssT rfl rfl rfl (by first | assumption | omega | (dsimp only; omega))) ?_) | (refine AL.rp rfl rfl (rp_lssF rfl rfl rfl (by first | assumption | omega | (dsimp only; omega))) ?_) | (refine AL.rp rfl rfl (rp_lss rfl rfl rfl) ?_))
   refine AL.nil ?_
   try simp only [thenS, S.put]
   refine AW.condT rfl ?_
   refine AW.seq ?_
   refine AW.region ?_
   refine AL.rp rfl rfl (rp_assign rfl rfl) ?_
   refine AL.nil ?_
   try simp only [thenS, S.put]
   refine AW.ret ?_
   exact ⟨[_], ⟨rfl, trivial⟩, by rw [hE]; rfl, by simp [tupOf, V.pure, V.has]⟩
  ·have hE := lexC_same htk (show l.length = k by omega) (by omega)
   refine AW.seq ?_
   refine AW.region ?_
   (first | (refine AL.rp rfl rfl (rp_lssT rfl rfl rfl (by first | assumption | omega | (dsimp only; omega))) ?_) | (refine AL.rp rfl rfl (rp_lssF rfl rfl rfl (by first | assumption | omega | (dsimp only; omega))) ?_) | (refine AL.rp rfl rfl (rp_lss rfl rfl rfl) ?_))
   refine AL.nil ?_
   try simp only [thenS, S.put]
   refine AW.seq ?_
   refine AW.condF rfl ?_
   refine AW.exit ?_
   try simp only [thenS, inBlockS, ↓reduceIte, Nat.reduceEqDiff]
   refine AW.seq ?_
   refine AW.seq ?_
   refine AW.region ?_
   refine AL.rp rfl rfl (rp_move rfl rfl) ?_
   (first | (refine AL.rp rfl rfl (rp_len_map Try.underlying40 rfl rfl (by assumption)) ?_) | (refine AL.rp rfl rfl (rp_len_own Try.underlying40 rfl rfl) ?_) | (refine AL.rp rfl rfl (rp_len_sl Try.underlying40 rfl rfl) ?_) | (refine AL.rp rfl rfl (rp_len_nil Try.underlying40 rfl rfl) ?_) | (refine AL.rp rfl rfl (rp_len_str Try.underlying40 rfl rfl) ?_))
   refine AL.rp rfl rfl (rp_move rfl rfl) ?_
   (first | (refine AL.rp rfl rfl (rp_len_map Try.underlying40 rfl rfl (by assumption)) ?_) | (refine AL.rp rfl rfl (rp_len_own Try.underlying40 rfl rfl) ?_) | (refine AL.rp rfl rfl (rp_len_sl Try.underlying40 rfl rfl) ?_) | (refine AL.rp rfl rfl (rp_len_nil Try.underlying40 rfl rfl) ?_) | (refine AL.rp rfl rfl (rp_len_str Try.underlying40 rfl rfl) ?_))
   (first | (refine AL.rp rfl rfl (rp_lssT rfl rfl rfl (by first | assumption | omega | (dsimp only; omega))) ?_) | (refine AL.rp rfl rfl (rp_lssF rfl rfl rfl (by first | assumption | omega | (dsimp only; omega))) ?_) | (refine AL.rp rfl rfl (rp_lss rfl rfl rfl) ?_))
   refine AL.nil ?_
   try simp only [thenS, S.put]
   refine AW.condF rfl ?_
   refine AW.skip ?_
   try simp only [thenS]
   refine AW.seq ?_
   refine AW.region ?_
   refine AL.rp rfl rfl (rp_assign rfl rfl) ?_
   refine AL.nil ?_
   try simp only [thenS, S.put]
   refine AW.ret ?_
   exact ⟨[_], ⟨rfl, trivial⟩, by rw [hE]; rfl, by simp [tupOf, V.pure, V.has]⟩
theorem am_Or (l : List Int) : Fn Try.prog 47 [.d (intsD l)] (fun v => v = .i (orI l)) := by
 refine Fn.sl 0 rfl fun hb => ?_
 obtain ⟨len, hn⟩ : ∃ n, l.length = n := ⟨_, rfl⟩
 rw [List.length_map, hn] at hb
 refine Fn.intro (n := 18) ⟨Try.func47, rfl, rfl, rfl, rfl⟩ (by simp [V.pure, V.has, V.hasL]) (by simp) fun w0 out => ?_
 refine AW.seq ?_
 refine AW.region ?_
 refine AL.rp rfl rfl (rp_assign rfl rfl) ?_
 refine AL.nil ?_
 try simp only [thenS, S.put, enum, List.nil_append, List.cons_append, List.append_nil, Nat.zero_add, Nat.reduceAdd]
 refine AW.seq ?_
 refine AW.region ?_
 refine AL.rp rfl rfl (rp_assign rfl rfl) ?_
 refine AL.nil ?_
 try simp only [thenS, S.put]
 refine AW.seq ?_
 refine AW.seq ?_
 refine AW.region ?_
 refine AL.rp rfl rfl (rp_move rfl rfl) ?_
 (first | (refine AL.rp rfl rfl (rp_len_map Try.underlying40 rfl rfl (by assumption)) ?_) | (refine AL.rp rfl rfl (rp_len_own Try.underlying40 rfl rfl) ?_) | (refine AL.rp rfl rfl (rp_len_sl Try.underlying40 rfl rfl) ?_) | (refine AL.rp rfl rfl (rp_len_nil Try.underlying40 rfl rfl) ?_) | (refine AL.rp rfl rfl (rp_len_str Try.underlying40 rfl rfl) ?_))
 refine AL.rp rfl rfl (rp_move rfl rfl) ?_
 refine AL.nil ?_
 try simp only [thenS, S.put]
 refine AW.block ?_
 refine AW.loop (fun s' => ∃ k : Nat, k ≤ len ∧ orI (l.drop k) = orI l ∧ s' = ⟨18, [(3, .i 0), (6, .d (intsD l)), (7, .i len), (8, .i k)], [], []⟩) (fun s' => len - s'.nat 8) ⟨_, ?_, 0, by omega, by simp, rfl⟩ ?_
 ·exact (Less.of rfl (by repeat (first | exact trivial | refine ⟨⟨_, rfl, Wk.refl _⟩, ?_⟩ | refine ⟨⟨_, rfl, Wk.nil _ _⟩, ?_⟩ | refine ⟨⟨_, rfl, Wk.junk _⟩, ?_⟩)) (by repeat (first | exact trivial | refine ⟨rfl, ?_⟩)) rfl)
 rintro s' ⟨k, hk, hor, rfl⟩
 by_cases hlt : k < len
 ·obtain ⟨x, hx⟩ := get_lt hn hlt
  by_cases h0 : x = 0
  ·skip
   refine AW.seq ?_
   refine AW.region ?_
   (first | (refine AL.rp rfl rfl (rp_lssT rfl rfl rfl (by first | assumption | omega | (dsimp only; omega))) ?_) | (refine AL.rp rfl rfl (rp_lssF rfl rfl rfl (by first | assumption | omega | (dsimp only; omega))) ?_) | (refine AL.rp rfl rfl (rp_lss rfl rfl rfl) ?_))
   refine AL.nil ?_
   try simp only [thenS, S.put]
   refine AW.seq ?_
   refine AW.condT rfl ?_
   refine AW.skip ?_
   try simp only [thenS]
   refine AW.seq ?_
   refine AW.block ?_
   refine AW.seq ?_
   refine AW.region ?_
   (first | (refine AL.rp rfl rfl (rp_index_map Try.underlying40 inf3 rfl rfl rfl rfl (by assumption)) ?_) | (refine AL.rp rfl rfl (rp_index_own Try.underlying40 inf3 rfl rfl rfl rfl (by first | assumption | omega)) ?_) | (refine AL.rp rfl rfl (rd_index_sl Try.underlying40 inf3 rfl rfl rfl rfl (by assumption)) ?_) | (refine AL.rp rfl rfl (rp_index_own Try.underlying40 inf3 rfl rfl rfl (by omega) (by omega)) ?_))
   (first | (refine AL.rd rfl rfl (rd_load_ref Try.underlying3 rfl rfl rfl rfl rfl rfl) ?_) | (refine AL.rd rfl rfl (rd_load_ad Try.underlying3 rfl rfl rfl rfl) ?_) | (refine AL.rd rfl rfl (rd_load_map Try.underlying3 rfl rfl rfl rfl rfl rfl (by assumption)) ?_) | (refine AL.rd rfl rfl (rd_load_flat Try.underlying3 rfl rfl rfl rfl rfl rfl (fun _ => rfl) (by assumption) rfl) ?_))
   refine AL.rp rfl rfl (rp_assign rfl rfl) ?_
   refine AL.nil ?_
   try simp only [thenS, S.put]
   refine AW.seq ?_
   refine AW.region ?_
   refine AL.rp rfl rfl (rp_move rfl rfl) ?_
   refine AL.rp rfl rfl (rp_move rfl rfl) ?_
   (first | (refine AL.rp rfl rfl (rp_neqT rfl rfl rfl (by first | assumption | omega | (dsimp only; omega))) ?_) | (refine AL.rp rfl rfl (rp_neqF rfl rfl rfl (by first | assumption | omega | (dsimp only; omega))) ?_) | (refine AL.rp rfl rfl (rp_neq rfl rfl rfl) ?_))
   refine AL.nil ?_
   try simp only [thenS, S.put]
   refine AW.condF rfl ?_
   refine AW.skip ?_
   try simp only [thenS]
   refine AW.region ?_
   refine AL.rp rfl rfl (rp_add rfl rfl rfl (by first | omega | (dsimp only; omega))) ?_
   refine AL.rp rfl rfl (rp_move rfl rfl) ?_
   refine AL.nil ?_
   try simp only [thenS, S.put]
   refine ⟨_, ?_, ⟨k + 1, by omega, by rw [← orI_step hx h0]; exact hor, rfl⟩, ?_⟩
   ·exact (Less.of rfl (by repeat (first | exact trivial | refine ⟨⟨_, rfl, Wk.refl _⟩, ?_⟩ | refine ⟨⟨_, rfl, Wk.nil _ _⟩, ?_⟩ | refine ⟨⟨_, rfl, Wk.junk _⟩, ?_⟩)) (by repeat (first | exact trivial | refine ⟨rfl, ?_⟩)) rfl)
   ·simp [S.nat, fnd]; omega
  ·have hE := orI_hit hx h0
   rw [hor] at hE
   refine AW.seq ?_
   refine AW.region ?_
   (first | (refine AL.rp rfl rfl (rp_lssT rfl rfl rfl (by first | assumption | omega | (dsimp only; omega))) ?_) | (refine AL.rp rfl rfl (rp_lssF rfl rfl rfl (by first | assumption | omega | (dsimp only; omega))) ?_) | (refine AL.rp rfl rfl (rp_lss rfl rfl rfl) ?_))
   refine AL.nil ?_
   try simp only [thenS, S.put]
   refine AW.seq ?_
   refine AW.condT rfl ?_
   refine AW.skip ?_
   try simp only [thenS]
   refine AW.seq ?_
   refine AW.block ?_
   refine AW.seq ?_
   refine AW.region ?_
   (first | (refine AL.rp rfl rfl (rp_index_map Try.underlying40 inf3 rfl rfl rfl rfl (by assumption)) ?_) | (refine AL.rp rfl rfl (rp_index_own Try.underlying40 inf3 rfl rfl rfl rfl (by first | assumption | omega)) ?_) | (refine AL.rp rfl rfl (rd_index_sl Try.underlying40 inf3 rfl rfl rfl rfl (by assumption)) ?_) | (refine AL.rp rfl rfl (rp_index_own Try.underlying40 inf3 rfl rfl rfl (by omega) (by omega)) ?_))
   (first | (refine AL.rd rfl rfl (rd_load_ref Try.underlying3 rfl rfl rfl rfl rfl rfl) ?_) | (refine AL.rd rfl rfl (rd_load_ad Try.underlying3 rfl rfl rfl rfl) ?_) | (refine AL.rd rfl rfl (rd_load_map Try.underlying3 rfl rfl rfl rfl rfl rfl (by assumption)) ?_) | (refine AL.rd rfl rfl (rd_load_flat Try.underlying3 rfl rfl rfl rfl rfl rfl (fun _ => rfl) (by assumption) rfl) ?_))
   refine AL.rp rfl rfl (rp_assign rfl rfl) ?_
   refine AL.nil ?_
   try simp only [thenS, S.put]
   refine AW.seq ?_
   refine AW.region ?_
   refine AL.rp rfl rfl (rp_move rfl rfl) ?_
   refine AL.rp rfl rfl (rp_move rfl rfl) ?_
   (first | (refine AL.rp rfl rfl (rp_neqT rfl rfl rfl (by first | assumption | omega | (dsimp only; omega))) ?_) | (refine AL.rp rfl rfl (rp_neqF rfl rfl rfl (by first | assumption | omega | (dsimp only; omega))) ?_) | (refine AL.rp rfl rfl (rp_neq rfl rfl rfl) ?_))
   refine AL.nil ?_
   try simp only [thenS, S.put]
   refine AW.condT rfl ?_
   refine AW.seq ?_
   refine AW.region ?_
   refine AL.rp rfl rfl (rp_move rfl rfl) ?_
   refine AL.rp rfl rfl (rp_assign rfl rfl) ?_
   refine AL.nil ?_
   try simp only [thenS, S.put]
   refine AW.ret ?_
   exact ⟨[_], ⟨rfl, trivial⟩, by rw [hE]; rfl, by simp [tupOf, V.pure, V.has]⟩
 ·have hE := orI_end (l := l) (k := k) (by omega)
  rw [hor] at hE
  refine AW.seq ?_
  refine AW.region ?_
  (first | (refine AL.rp rfl rfl (rp_lssT rfl rfl rfl (by first | assumption | omega | (dsimp only; omega))) ?_) | (refine AL.rp rfl rfl (rp_lssF rfl rfl rfl (by first | assumption | omega | (dsimp only; omega))) ?_) | (refine AL.rp rfl rfl (rp_lss rfl rfl rfl) ?_))
  refine AL.nil ?_
  try simp only [thenS, S.put]
  refine AW.seq ?_
  refine AW.condF rfl ?_
  refine AW.exit ?_
  try simp only [thenS, inBlockS, ↓reduceIte, Nat.reduceEqDiff]
  refine AW.seq ?_
  refine AW.region ?_
  refine AL.rp rfl rfl (rp_move rfl rfl) ?_
  refine AL.rp rfl rfl (rp_assign rfl rfl) ?_
  refine AL.nil ?_
  try simp only [thenS, S.put]
  refine AW.ret ?_
  exact ⟨[_], ⟨rfl, trivial⟩, by rw [hE]; rfl, by simp [tupOf, V.pure, V.has]⟩
set_option maxHeartbeats 1000000 in
theorem am_Clone (l : List Int) : Fn Try.prog 64 [.d (intsD l)] (fun v => v = .d (intsD l)) := by
 refine Fn.sl 0 rfl fun hb => ?_
 rw [List.length_map] at hb
 refine Fn.intro (n := 8) ⟨Try.func64, rfl, rfl, rfl, rfl⟩ (by simp [V.pure, V.has, V.hasL]) (by simp) fun w0 out => ?_
 refine AW.seq ?_
 refine AW.region ?_
 refine AL.rp rfl rfl (rp_assign rfl rfl) ?_
 refine AL.nil ?_
 try simp only [thenS, S.put, enum, List.nil_append, List.cons_append, List.append_nil, Nat.zero_add, Nat.reduceAdd]
 refine AW.seq ?_
 refine AW.seq ?_
 refine AW.region ?_
 refine AL.rp rfl rfl (rp_move rfl rfl) ?_
 refine AL.call rfl (sm_eqnil Try.underlying40 rfl rfl rfl rfl) ?_
 rintro _ ⟨b, rfl, hnil⟩ -
 refine AL.nil ?_
 try simp only [thenS, S.put, S.newObj, setL, V.cs, List.length_cons, List.length_nil, List.take_succ_cons, List.take_zero, List.drop_succ_cons, List.drop_zero, List.drop_nil, List.nil_append, List.cons_append, List.append_nil, Nat.zero_add, Nat.reduceAdd, List.map_cons, List.map_nil, List.set_cons_zero, List.set_cons_succ]
 cases b with
 | true =>
  have h0 := hnil rfl
  have h1 : l = [] := by simpa using h0
  subst h1
  refine AW.condT rfl ?_
  refine AW.seq ?_
  refine AW.region ?_
  refine AL.rp rfl rfl (rp_assign rfl rfl) ?_
  refine AL.nil ?_
  try simp only [thenS, S.put]
  refine AW.adopt 2 2 1 3 rfl rfl ?_
  refine AW.freeze 2 8 [] rfl rfl rfl rfl (by omega) (rows1 (l := ([] : List Int)) (f := fun x => D.p (.int .i64 x)) rfl) ?_
  refine AW.ret ?_
  exact ⟨[_], ⟨rfl, trivial⟩, rfl, by simp [tupOf, V.pure, V.has]⟩
 | false =>
  by_cases h0 : l = []
  ·subst h0
   refine AW.condF rfl ?_
   refine AW.skip ?_
   try simp only [thenS]
   refine AW.seq ?_
   refine AW.region ?_
   refine AL.sm rfl (sm_slice0 5 Try.underlying40 inf3 rfl (by first | rfl | simp [S.clean, S.put, S.newObj, S.forget, V.has, V.hasL, junkIf, setL, V.cs, hasL_i, hasL_b, hasL_s, hasL_n, hasL_rep, hasL_flat, hasL_append, -List.map_set]) rfl) ?_
   refine AL.rp rfl rfl (rp_move rfl rfl) ?_
   (first | (refine AL.rp rfl rfl (rp_append_nil Try.underlying40 inf3 rfl rfl rfl) ?_) | (refine AL.rp rfl rfl (rp_append_none Try.underlying40 inf3 rfl rfl rfl) ?_))
   refine AL.rp rfl rfl (rp_assign rfl rfl) ?_
   refine AL.nil ?_
   try simp only [thenS, S.put, S.newObj, setL, V.cs, List.length_cons, List.length_nil, List.take_succ_cons, List.take_zero, List.drop_succ_cons, List.drop_zero, List.drop_nil, List.nil_append, List.cons_append, List.append_nil, Nat.zero_add, Nat.reduceAdd, List.map_cons, List.map_nil, List.set_cons_zero, List.set_cons_succ]
   refine AW.freeze 2 8 [] rfl rfl rfl rfl (by omega) (rows1 (l := ([] : List Int)) (f := fun x => D.p (.int .i64 x)) rfl) ?_
   refine AW.ret ?_
   exact ⟨[_], ⟨rfl, trivial⟩, rfl, by simp [tupOf, V.pure, V.has]⟩
  ·have hlen : 0 < l.length := List.length_pos_iff.2 h0
   refine AW.condF rfl ?_
   refine AW.skip ?_
   try simp only [thenS]
   refine AW.seq ?_
   refine AW.region ?_
   refine AL.sm rfl (sm_slice0 5 Try.underlying40 inf3 rfl (by first | rfl | simp [S.clean, S.put, S.newObj, S.forget, V.has, V.hasL, junkIf, setL, V.cs, hasL_i, hasL_b, hasL_s, hasL_n, hasL_rep, hasL_flat, hasL_append, -List.map_set]) rfl) ?_
   refine AL.rp rfl rfl (rp_move rfl rfl) ?_
   refine AL.st rfl (st_appendD Try.underlying40 inf3 rfl rfl rfl rfl rfl rfl rfl rfl rfl (by first | rfl | simp [S.clean, S.put, S.newObj, S.forget, V.has, V.hasL, junkIf, setL, V.cs, hasL_i, hasL_b, hasL_s, hasL_n, hasL_rep, hasL_flat, hasL_append, -List.map_set]) rfl (fun _ => rfl) (by assumption) (by omega) (by omega) rfl) ?_
   simp only [S.forget, S.put, S.newObj, junkIf, V.has, V.hasL, hasL_i, hasL_b, hasL_s, hasL_d, hasL_n, hasL_rep, hasL_flat, hasL_append, List.map_cons, List.map_nil, List.filter_cons, List.filter_nil, Nat.reduceBNe, Nat.reduceBEq, eq_self, bne_self_eq_false,  Bool.not_true, Bool.not_false, Bool.or_false, Bool.or_true, Bool.false_or, Bool.true_or, if_true, if_false, Bool.false_eq_true, ite_true, ite_false, ↓reduceIte, beq_self_eq_true, Nat.reduceEqDiff]
   refine AL.rp rfl rfl (rp_assign rfl rfl) ?_
   refine AL.nil ?_
   try simp only [thenS, S.put, S.newObj, setL, V.cs, List.length_cons, List.length_nil, List.take_succ_cons, List.take_zero, List.drop_succ_cons, List.drop_zero, List.drop_nil, List.nil_append, List.cons_append, List.append_nil, Nat.zero_add, Nat.reduceAdd, List.map_cons, List.map_nil, List.set_cons_zero, List.set_cons_succ]
   refine AW.freeze 2 8 (l.map fun x => [D.p (.int .i64 x)]) rfl rfl rfl (by simp) (by omega) (rows1 (f := fun x => D.p (.int .i64 x)) rfl) ?_
   refine AW.ret ?_
   exact ⟨[_], ⟨rfl, trivial⟩, rfl, by simp [tupOf, V.pure, V.has]⟩
theorem am_less (a b : Mk) : Fn Try.prog 95 [mkV a, mkV b] (fun v => v = .b (better a b)) := by
 obtain ⟨a0, aw, ao⟩ := a
 obtain ⟨b0, bw, bo⟩ := b
 refine Fn.intro (n := 25) ⟨Try.func95, rfl, rfl, rfl, rfl⟩ (by simp [V.pure, V.has, V.hasL]) (by simp) fun w0 out => ?_
 refine AW.seq ?_
 refine AW.region ?_
 refine AL.sm rfl (sm_box 2 rfl rfl rfl (by first | rfl | simp [S.clean, S.put, S.newObj, S.forget, V.has, V.hasL, junkIf, setL, V.cs, hasL_i, hasL_b, hasL_s, hasL_n, hasL_rep, hasL_flat, hasL_append, -List.map_set]) rfl) ?_
 refine AL.sm rfl (sm_box 3 rfl rfl rfl (by first | rfl | simp [S.clean, S.put, S.newObj, S.forget, V.has, V.hasL, junkIf, setL, V.cs, hasL_i, hasL_b, hasL_s, hasL_n, hasL_rep, hasL_flat, hasL_append, -List.map_set]) rfl) ?_
 refine AL.rp rfl rfl (rp_assign rfl rfl) ?_
 refine AL.nil ?_
 try simp only [thenS, S.put, S.newObj, setL, V.cs, List.length_cons, List.length_nil, List.take_succ_cons, List.take_zero, List.drop_succ_cons, List.drop_zero, List.drop_nil, List.nil_append, List.cons_append, List.append_nil, Nat.zero_add, Nat.reduceAdd, List.map_cons, List.map_nil, List.set_cons_zero, List.set_cons_succ, enum]
 refine AW.seq ?_
 refine AW.draw [(0, true), (1, true), (2, true), (3, true), (5, true), (6, true), (7, true), (8, true), (9, true), (10, true), (12, true), (13, true), (14, true), (15, true), (4, false), (11, false), (16, false), (17, false), (18, false), (19, false), (20, false)] (fun i => !([] : List Nat).contains i) 21 (by kernel_rfl) (by kernel_rfl) rfl (by kernel_rfl) ?_
 (first | (refine AD1.rp rfl rfl rfl (fun _ _ h => h) (rp_field_ref Try.underlying82 rfl rfl rfl inf3 (by decide) rfl) ?_) | (refine AD1.rp rfl rfl rfl (fun _ _ h => h) (rp_field_ad Try.underlying82 rfl rfl rfl inf3 (by decide) rfl) ?_))
 (first | (refine AD1.rd rfl rfl rfl (fun _ _ h => h) (rd_load_ref Try.underlying3 rfl rfl rfl rfl rfl rfl) ?_) | (refine AD1.rd rfl rfl rfl (fun _ _ h => h) (rd_load_ad Try.underlying3 rfl rfl rfl rfl) ?_) | (refine AD1.rd rfl rfl rfl (fun _ _ h => h) (rd_load_map Try.underlying3 rfl rfl rfl rfl rfl rfl (by assumption)) ?_) | (refine AD1.rd rfl rfl rfl (fun _ _ h => h) (rd_load_flat Try.underlying3 rfl rfl rfl rfl rfl rfl (fun _ => rfl) (by assumption) rfl) ?_))
 (first | (refine AD1.rp rfl rfl rfl (fun _ _ h => h) (rp_field_ref Try.underlying82 rfl rfl rfl inf3 (by decide) rfl) ?_) | (refine AD1.rp rfl rfl rfl (fun _ _ h => h) (rp_field_ad Try.underlying82 rfl rfl rfl inf3 (by decide) rfl) ?_))
 (first | (refine AD1.rd rfl rfl rfl (fun _ _ h => h) (rd_load_ref Try.underlying3 rfl rfl rfl rfl rfl rfl) ?_) | (refine AD1.rd rfl rfl rfl (fun _ _ h => h) (rd_load_ad Try.underlying3 rfl rfl rfl rfl) ?_) | (refine AD1.rd rfl rfl rfl (fun _ _ h => h) (rd_load_map Try.underlying3 rfl rfl rfl rfl rfl rfl (by assumption)) ?_) | (refine AD1.rd rfl rfl rfl (fun _ _ h => h) (rd_load_flat Try.underlying3 rfl rfl rfl rfl rfl rfl (fun _ => rfl) (by assumption) rfl) ?_))
 (first | (refine AD1.rp rfl rfl rfl (fun _ _ h => h) (rp_field_ref Try.underlying82 rfl rfl rfl inf40 (by decide) rfl) ?_) | (refine AD1.rp rfl rfl rfl (fun _ _ h => h) (rp_field_ad Try.underlying82 rfl rfl rfl inf40 (by decide) rfl) ?_))
 (first | (refine AD1.rd rfl rfl rfl (fun _ _ h => h) (rd_load_ref Try.underlying40 rfl rfl rfl rfl rfl rfl) ?_) | (refine AD1.rd rfl rfl rfl (fun _ _ h => h) (rd_load_ad Try.underlying40 rfl rfl rfl rfl) ?_) | (refine AD1.rd rfl rfl rfl (fun _ _ h => h) (rd_load_map Try.underlying40 rfl rfl rfl rfl rfl rfl (by assumption)) ?_) | (refine AD1.rd rfl rfl rfl (fun _ _ h => h) (rd_load_flat Try.underlying40 rfl rfl rfl rfl rfl rfl (fun _ => rfl) (by assumption) rfl) ?_))
 (first | (refine AD1.rp rfl rfl rfl (fun _ _ h => h) (rp_len_map Try.underlying40 rfl rfl (by assumption)) ?_) | (refine AD1.rp rfl rfl rfl (fun _ _ h => h) (rp_len_own Try.underlying40 rfl rfl) ?_) | (refine AD1.rp rfl rfl rfl (fun _ _ h => h) (rp_len_sl Try.underlying40 rfl rfl) ?_) | (refine AD1.rp rfl rfl rfl (fun _ _ h => h) (rp_len_nil Try.underlying40 rfl rfl) ?_) | (refine AD1.rp rfl rfl rfl (fun _ _ h => h) (rp_len_str Try.underlying40 rfl rfl) ?_))
 (first | (refine AD1.rp rfl rfl rfl (fun _ _ h => h) (rp_field_ref Try.underlying82 rfl rfl rfl inf40 (by decide) rfl) ?_) | (refine AD1.rp rfl rfl rfl (fun _ _ h => h) (rp_field_ad Try.underlying82 rfl rfl rfl inf40 (by decide) rfl) ?_))
 (first | (refine AD1.rd rfl rfl rfl (fun _ _ h => h) (rd_load_ref Try.underlying40 rfl rfl rfl rfl rfl rfl) ?_) | (refine AD1.rd rfl rfl rfl (fun _ _ h => h) (rd_load_ad Try.underlying40 rfl rfl rfl rfl) ?_) | (refine AD1.rd rfl rfl rfl (fun _ _ h => h) (rd_load_map Try.underlying40 rfl rfl rfl rfl rfl rfl (by assumption)) ?_) | (refine AD1.rd rfl rfl rfl (fun _ _ h => h) (rd_load_flat Try.underlying40 rfl rfl rfl rfl rfl rfl (fun _ => rfl) (by assumption) rfl) ?_))
 (first | (refine AD1.rp rfl rfl rfl (fun _ _ h => h) (rp_len_map Try.underlying40 rfl rfl (by assumption)) ?_) | (refine AD1.rp rfl rfl rfl (fun _ _ h => h) (rp_len_own Try.underlying40 rfl rfl) ?_) | (refine AD1.rp rfl rfl rfl (fun _ _ h => h) (rp_len_sl Try.underlying40 rfl rfl) ?_) | (refine AD1.rp rfl rfl rfl (fun _ _ h => h) (rp_len_nil Try.underlying40 rfl rfl) ?_) | (refine AD1.rp rfl rfl rfl (fun _ _ h => h) (rp_len_str Try.underlying40 rfl rfl) ?_))
 (first | (refine AD1.rp rfl rfl rfl (fun _ _ h => h) (rp_field_ref Try.underlying82 rfl rfl rfl inf40 (by decide) rfl) ?_) | (refine AD1.rp rfl rfl rfl (fun _ _ h => h) (rp_field_ad Try.underlying82 rfl rfl rfl inf40 (by decide) rfl) ?_))
 (first | (refine AD1.rd rfl rfl rfl (fun _ _ h => h) (rd_load_ref Try.underlying40 rfl rfl rfl rfl rfl rfl) ?_) | (refine AD1.rd rfl rfl rfl (fun _ _ h => h) (rd_load_ad Try.underlying40 rfl rfl rfl rfl) ?_) | (refine AD1.rd rfl rfl rfl (fun _ _ h => h) (rd_load_map Try.underlying40 rfl rfl rfl rfl rfl rfl (by assumption)) ?_) | (refine AD1.rd rfl rfl rfl (fun _ _ h => h) (rd_load_flat Try.underlying40 rfl rfl rfl rfl rfl rfl (fun _ => rfl) (by assumption) rfl) ?_))
 (first | (refine AD1.rp rfl rfl rfl (fun _ _ h => h) (rp_field_ref Try.underlying82 rfl rfl rfl inf40 (by decide) rfl) ?_) | (refine AD1.rp rfl rfl rfl (fun _ _ h => h) (rp_field_ad Try.underlying82 rfl rfl rfl inf40 (by decide) rfl) ?_))
 (first | (refine AD1.rd rfl rfl rfl (fun _ _ h => h) (rd_load_ref Try.underlying40 rfl rfl rfl rfl rfl rfl) ?_) | (refine AD1.rd rfl rfl rfl (fun _ _ h => h) (rd_load_ad Try.underlying40 rfl rfl rfl rfl) ?_) | (refine AD1.rd rfl rfl rfl (fun _ _ h => h) (rd_load_map Try.underlying40 rfl rfl rfl rfl rfl rfl (by assumption)) ?_) | (refine AD1.rd rfl rfl rfl (fun _ _ h => h) (rd_load_flat Try.underlying40 rfl rfl rfl rfl rfl rfl (fun _ => rfl) (by assumption) rfl) ?_))
 refine AD1.go ?_
 refine AD2.call (post := ?pc71) rfl rfl (sm_call (args := [_, _]) ?hc71 ⟨Try.func111, rfl, rfl, rfl, rfl⟩ rfl rfl rfl rfl) ?_
 case hc71 => exact am_cmp _ _
 rintro _ rfl -
 try dsimp only
 refine AD2.call (post := ?pc72) rfl rfl (sm_call (args := [_, _]) ?hc72 ⟨Try.func111, rfl, rfl, rfl, rfl⟩ rfl rfl rfl rfl) ?_
 case hc72 => exact am_cmp _ _
 rintro _ rfl -
 try dsimp only
 refine AD2.call (post := ?pc73) rfl rfl (sm_call (args := [_, _]) ?hc73 ⟨Try.func78, rfl, rfl, rfl, rfl⟩ rfl rfl rfl rfl) ?_
 case hc73 => exact am_lexC _ _
 rintro _ rfl -
 try dsimp only
 refine AD2.sm rfl rfl (sm_slice (vs := [(0, _), (1, _), (2, _)]) (zs := [.d (.p (.int .i64 0)), .d (.p (.int .i64 0)), .d (.p (.int .i64 0))]) 22 Try.underlying40 inf3 rfl rfl (by decide) (by decide) (by decide) rfl rfl rfl rfl (by first | rfl | simp [S.clean, S.put, S.newObj, S.forget, V.has, V.hasL, junkIf, setL, V.cs, hasL_i, hasL_b, hasL_s, hasL_n, hasL_rep, hasL_flat, hasL_append, -List.map_set]) (by first | rfl | simp [S.clean, S.put, S.newObj, S.forget, V.has, V.hasL, junkIf, setL, V.cs, hasL_i, hasL_b, hasL_s, hasL_n, hasL_rep, hasL_flat, hasL_append, -List.map_set]) rfl) ?_
 refine AD2.call (post := ?pc74) rfl rfl (sm_callr (args := ?ac74) (us := [_]) ?hc74 ?qc74 ⟨Try.func47, rfl, rfl, rfl, rfl⟩ rfl rfl rfl ?rc74 rfl) ?_
 case hc74 => exact am_Or [cmpI aw bw, cmpI ao.length bo.length, lexC ao bo]
 case qc74 => (intro v hv; first | (subst hv; first | trivial | (simp [V.plain]; done)) | (obtain ⟨_, rfl, _⟩ := hv; first | trivial | (simp [V.plain]; done)))
 case rc74 => exact .cons (.own 22 1 3 8 false _ ([cmpI aw bw, cmpI ao.length bo.length, lexC ao bo].map fun x => [D.p (.int .i64 x)]) rfl rfl rfl (by decide) (rows1 (f := fun x => D.p (.int .i64 x)) (by simp [setL, V.cs]))) .nil
 rintro _ rfl -
 try dsimp only
 (first | (refine AD2.rp1 rfl rfl rfl (rp_lssT rfl rfl rfl (by first | assumption | omega | (dsimp only; omega))) ?_) | (refine AD2.rp1 rfl rfl rfl (rp_lssF rfl rfl rfl (by first | assumption | omega | (dsimp only; omega))) ?_) | (refine AD2.rp1 rfl rfl rfl (rp_lss rfl rfl rfl) ?_))
 refine AD2.rp1 rfl rfl rfl (rp_assign rfl rfl) ?_
 refine AD2.nil ?_
 try simp only [thenS, S.put, S.newObj, setL, V.cs, List.length_cons, List.length_nil, List.take_succ_cons, List.take_zero, List.drop_succ_cons, List.drop_zero, List.drop_nil, List.nil_append, List.cons_append, List.append_nil, Nat.zero_add, Nat.reduceAdd, List.map_cons, List.map_nil, List.set_cons_zero, List.set_cons_succ]
 refine AW.ret ?_
 exact ⟨[_], ⟨rfl, trivial⟩, rfl, by simp [tupOf, V.pure, V.has]⟩
end Go.Proofs.Ytjbldphpkkmdpaa
