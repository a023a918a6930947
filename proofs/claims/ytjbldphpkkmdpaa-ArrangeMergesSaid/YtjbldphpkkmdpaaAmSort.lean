/- slices.SortFunc on a slice of the call's own: by the kit's contract. -/
import Derived.Test.YtjbldphpkkmdpaaAmS
import Derived.Test.YtjbldphpkkmdpaaAmHp
import Derived.Test.YtjbldphpkkmdpaaAmP
import Derived.Test.YtjbldphpkkmdpaaSrt
import Derived.Shelf.SlSortCmp.InsertionK
namespace Go.Proofs.Ytjbldphpkkmdpaa
open Go.RowKit
set_option linter.unusedSimpArgs false
set_option linter.unusedVariables false

open Go.Sort (HoldsK grow)
instance : Inhabited Ar := ⟨⟨0, 0, 0, 0⟩⟩
def encAr (a : Ar) : List Value := [.int .i64 a.i, .int .i64 a.o, .int .i64 a.w, .int .i64 a.t]
abbrev arV4 (a : Ar) : List V := (arD a).map V.d
/-- What is known of a sort: it leaves the elements in the order that res tells. -/
structure SrtC (P : Program) (f : FuncId) (cf : Ar → Ar → Int) (res : List Ar → List Ar) : Prop where
  run : ∀ (g : FuncId) (cb : Array Value) (blk cap : Nat) (d : Array Ar) (w : World), (∀ args w, (callFunc g args).run P w = .ok (.enter g args) w) → CmpLays P g cb encAr 4 cf blk 0 d.size w → HoldsK encAr 4 w blk 0 d → blk < w.heap.size → d.size < 4611686018427387904 →
    Calls P f #[.slice (some ⟨blk, 0, none⟩) d.size cap, .func (.func g) #[] cb] w fun e w' => e = .returned (.tuple #[]) ∧ ∃ n os, w' = sortWorldK encAr 4 w blk 0 n (res d.toList).toArray os
  none : ∀ (p : Option Addr) (cap : Nat) (fv : Value) (w : World), Calls P f #[.slice p 0 cap, fv] w fun e w' => e = .returned (.tuple #[]) ∧ w' = w
  len : ∀ l, (res l).length = l.length
theorem enc_get (l : List Ar) (j : Nat) (h : j < l.length * 4) : (l.flatMap arV4)[j]? = some (V.d (.p ((encAr l.toArray[j / 4]!)[j % 4]!))) := by
  induction l generalizing j with
  | nil => simp at h
  | cons a l ih =>
    rw [List.flatMap_cons]
    match j, h with
    | 0, _ => rfl
    | 1, _ => rfl
    | 2, _ => rfl
    | 3, _ => rfl
    | j + 4, h =>
      simp only [List.length_cons] at h
      have h2 := ih j (by omega)
      rw [show (arV4 a ++ l.flatMap arV4)[j + 4]? = (l.flatMap arV4)[j]? from rfl, h2]
      have e1 : (j + 4) / 4 = j / 4 + 1 := by omega
      have e2 : (j + 4) % 4 = j % 4 := by omega
      rw [e1, e2]
      have h3 : j / 4 < l.length := by omega
      simp [h3]
theorem enc_len (l : List Ar) : (l.flatMap arV4).length = l.length * 4 := by
  induction l with
  | nil => rfl
  | cons a l ih => rw [List.flatMap_cons, List.length_append, ih]; simp; omega
section
variable {c : Cx} {s : S} {o : Oper}
theorem st_sort {f gf kf : FuncId} {fn : Func} {code : Code} {nn : Nat} {rs : List ResultVar} {cf : Ar → Ar → Int} {res : List Ar → List Ar} {fx : Operand} {xs : Array Operand} {tys : Array TypeId} {r rk n : Nat} {fl : Bool} {ty : TypeId} {l : List Ar} {rowk : Row} (hf : Is c.P f fn code nn rs) (hS : SrtC c.P f cf res)
    (ho : o.op = .call { callee := .value fx, args := xs, argTypes := tys }) (hfx : s.ev fx = some (.fn f [])) (hargs : xs.toList.map s.ev = [.own r 4 n fl, .fn gf [.ref rk 0]].map some) (hr : fnd s.H r = some ⟨ty, l.flatMap arV4, fl, 4⟩) (hn : l.length = n) (hnb : n ≤ 1000000)
    (hk : fnd s.H rk = some rowk) (hkn : rowk.nil = false) (hkc : rowk.cells[0]? = some (.fn kf [])) (hne : rk ≠ r) (hd : dok s o = true) (eg : ∀ args w, (callFunc gf args).run c.P w = .ok (.enter gf args) w)
    (hcl : ∀ (bk : Nat) (W : World) (a b : Ar), W.cell? ⟨bk, 0, none⟩ = some (.func (.func kf) #[] #[]) → Calls c.P gf #[.agg (encAr a).toArray, .agg (encAr b).toArray, .pointer (some ⟨bk, 0, none⟩)] W fun e w' => e = .returned (.int .i64 (cf a b)) ∧ ∃ q os', w' = grow (W.drewN q) os') :
    Step c o s (fun s' => s' = ({ s with H := (r, ⟨ty, (res l).flatMap arV4, fl, 4⟩) :: s.H } : S).put o.dst (.tup [])) := by
  intro g a w hs K Q hK
  obtain ⟨cs, hfv, hcl0, _⟩ := fn_eval hs hfx
  obtain rfl : cs = [] := by cases cs with | nil => rfl | cons => simp at hcl0
  obtain ⟨hal, hav⟩ := args_eval hs hargs
  obtain ⟨x, y, hxy⟩ : ∃ x y, xs.toList.map a.eval = [x, y] := by
    match h : xs.toList.map a.eval, hal with
    | [x, y], _ => exact ⟨x, y, rfl⟩
  rw [hxy] at hav
  have hx := hav 0 _ x rfl rfl
  have hy := hav 1 _ y rfl rfl
  have hrun : (execOp a.eval o).run c.P w = .ok (.enter f #[x, y]) w := by
    rw [exec_call (caps := []) hf ho hfv, hxy]; rfl
  have hres0 : ∀ w', Sim c g { s with H := (r, ⟨ty, (res l).flatMap arV4, fl, 4⟩) :: s.H } a w' → K (a.put o.dst (.tuple #[])) w' := fun w' h =>
    hK g _ _ w' rfl (h.put o.dst (dok_spec (s := { s with H := (r, ⟨ty, (res l).flatMap arV4, fl, 4⟩) :: s.H }) hd) (.tup [] [] rfl (by intro j u z h1; simp at h1)))
  unfold Oper.wp
  rw [hrun]
  simp only [Oper.upon]
  by_cases hl0 : l = []
  · subst hl0
    have hr0 : res [] = [] := List.length_eq_zero_iff.1 (hS.len [])
    obtain rfl : n = 0 := by simpa using hn.symm
    have hxs : ∃ p cap, x = .slice p 0 cap := by
      cases hx with
      | own => exact ⟨_, _, rfl⟩
      | ownNil => exact ⟨_, _, rfl⟩
    obtain ⟨p, cap, rfl⟩ := hxs
    refine (hS.none p cap y w).mono ?_
    rintro e w' ⟨rfl, rfl⟩
    refine hres0 _ (hs.less ⟨rfl, fun i v h => ⟨v, h, .refl _⟩, fun k row' h => ⟨row', ?_, rfl, rfl, rfl, fun j v hv => ⟨v, hv, .refl _⟩⟩, fun j v h => ⟨v, h, .refl _⟩⟩)
    simp only [fnd] at h
    split at h
    · rename_i e
      simp only [beq_iff_eq] at e
      subst e
      rw [hr0] at h
      rw [hr]; exact h
    · exact h
  · have hpos : 0 < l.length := List.length_pos_iff.2 hl0
    have hfl : fl = false := by
      cases fl with
      | false => rfl
      | true =>
        have h1 := congrArg List.length (hs.nul r _ hr rfl)
        simp only [enc_len, List.length_nil] at h1
        omega
    subst hfl
    obtain ⟨cap, hx1, hcap⟩ : ∃ cap, x = .slice (some ⟨(g r).1, 0, none⟩) n cap ∧ n ≤ (g r).2 := by
      cases hx with
      | own _ _ _ hn' hc' => exact ⟨_, rfl, hn'⟩
    subst hx1
    obtain ⟨bk, rfl, hbk⟩ : ∃ bk : Nat, y = .func (.func gf) #[] #[.pointer (some ⟨bk, 0, none⟩)] ∧ bk = (g rk).1 := by
      cases hy with
      | fn _ _ cs' hlen' h' =>
        match cs', hlen' with
        | [z], _ =>
          have h2 := h' 0 _ z rfl rfl
          cases h2
          exact ⟨_, rfl, rfl⟩
    obtain ⟨arr, ha, hsz, hc⟩ := hs.obj r _ hr rfl
    simp only at ha hsz hc
    have hsz := hsz (by decide)
    have hbne : bk ≠ (g r).1 := fun e => hne (hs.inj rk r _ _ hk hkn hr rfl (hbk ▸ e))
    have hbcell : w.cell? ⟨bk, 0, none⟩ = some (.func (.func kf) #[] #[]) := by
      obtain ⟨ak, h1, _, h3⟩ := hs.obj rk _ hk hkn
      obtain ⟨z, h4, h5⟩ := h3 0 _ hkc
      have hz : z = .func (.func kf) #[] #[] := by
        cases h5 with
        | fn _ _ cs' hlen' h' =>
          match cs', hlen' with
          | [], _ => rfl
      rw [hbk]
      simp only [World.cell?, h1, Option.isSome_none, Bool.false_eq_true, if_false]
      rw [h4, hz]
    have hlt : (g r).1 < w.heap.size := (Array.getElem?_eq_some_iff.1 ha).1
    have hH : Sort.HoldsK encAr 4 w (g r).1 0 l.toArray := by
      intro j hj
      rw [Sort.size_flatK] at hj
      have hj' : j < l.length * 4 := by simpa using hj
      obtain ⟨z, h4, h5⟩ := hc j _ (enc_get l j hj')
      have hz : z = (encAr l.toArray[j / 4]!)[j % 4]! := by
        cases h5 with
        | d _ _ h6 => cases h6; rfl
      refine ⟨?_, ?_⟩
      · rw [Sort.get_flatK _ _ _ _ (by simpa using hj')]
        simp only [World.cell?, ha, Option.isSome_none, Bool.false_eq_true, if_false, Nat.zero_add, id]
        rw [h4, hz]
      · simp [World.frozen?, ha]
    have hcmp : CmpLays c.P gf #[.pointer (some ⟨bk, 0, none⟩)] encAr 4 cf (g r).1 0 l.toArray.size w := by
      intro m os dk hdk a b
      refine hcl bk _ a b ?_
      rw [← hbcell]
      have hbl : bk < w.heap.size := by
        obtain ⟨ak, h1, _, _⟩ := hs.obj rk _ hk hkn
        rw [hbk]
        exact (Array.getElem?_eq_some_iff.1 h1).1
      refine World.cell?_of_block ?_
      unfold sortWorldK Sort.grow Sort.putRowK Sort.putRow Sort.mapBlock Sort.ahead
      simp only
      rw [Array.getElem?_append_left (by simpa using hbl), Array.getElem?_modify, if_neg (fun e => hbne e.symm)]
    have hn2 : n = l.toArray.size := by simp [hn]
    have key := hS.run gf #[.pointer (some ⟨bk, 0, none⟩)] (g r).1 cap l.toArray w eg hcmp hH hlt (by simp; omega)
    rw [← hn2] at key
    refine key.mono ?_
    rintro e w' ⟨rfl, m, os, rfl⟩
    refine hres0 _ ?_
    have hrl := hS.len l
    refine Sim.move (w := Sort.putRowK encAr 4 (Sort.ahead w m) (g r).1 0 (res l).toArray) ?_ ?_
    · refine Sim.setRow hs (row := ⟨ty, l.flatMap arV4, false, 4⟩) (row' := ⟨ty, (res l).flatMap arV4, false, 4⟩) (arr' := Sort.putCells id 0 (Sort.flatK encAr 4 (res l).toArray) arr) hr rfl rfl rfl rfl ?_ ?_ ?_ rfl rfl rfl ?_ ?_
      · simp only [Sort.putRowK, Sort.putRow, Sort.mapBlock, Sort.ahead, Array.getElem?_modify, if_true, ha, Option.map_some, Sort.onCells]
      · intro b hb
        simp only [Sort.putRowK, Sort.putRow, Sort.mapBlock, Sort.ahead, Array.getElem?_modify]
        rw [if_neg (fun e => hb e.symm)]
      · simp [Sort.putRowK, Sort.putRow, Sort.mapBlock, Sort.ahead]
      · intro arr0 ty0 h0
        rw [ha] at h0
        simp only [Option.some.injEq, Obj.cells.injEq, and_true] at h0
        obtain ⟨rfl, _⟩ := h0
        simp [Sort.putCells]
      · intro j v hv
        simp only at hv
        have hj : j < (res l).length * 4 := by
          rw [← enc_len]
          exact (List.getElem?_eq_some_iff.1 hv).1
        rw [enc_get _ _ hj] at hv
        simp only [Option.some.injEq] at hv
        subst hv
        have hja : j < arr.size := by omega
        refine ⟨_, ?_, .d _ _ (.p _)⟩
        simp only [Sort.putCells, Array.getElem?_mapIdx]
        rw [Array.getElem?_eq_getElem hja, Option.map_some, if_pos (by simp; omega), Nat.sub_zero, Sort.get_flatK _ _ _ _ (by simpa using hj)]
        rfl
    · exact ⟨rfl, rfl, rfl, by simp [Sort.grow, sortWorldK], fun k hk => by
        unfold sortWorldK Sort.grow
        simp only
        rw [Array.getElem?_append_left hk]⟩

/-- A sort of no element that is no object. -/
theorem st_sort0 {f : FuncId} {fn : Func} {code : Code} {nn : Nat} {rs : List ResultVar} {cf : Ar → Ar → Int} {res : List Ar → List Ar} {fx : Operand} {xs : Array Operand} {tys : Array TypeId} {sz bt : Nat} {v : V} (hf : Is c.P f fn code nn rs) (hS : SrtC c.P f cf res)
    (ho : o.op = .call { callee := .value fx, args := xs, argTypes := tys }) (hfx : s.ev fx = some (.fn f [])) (hargs : xs.toList.map s.ev = [.d (.sl sz bt []), v].map some) (hd : dok s o = true) :
    Step c o s (fun s' => s' = s.put o.dst (.tup [])) := by
  intro g a w hs K Q hK
  obtain ⟨cs, hfv, hcl0, _⟩ := fn_eval hs hfx
  obtain rfl : cs = [] := by cases cs with | nil => rfl | cons => simp at hcl0
  obtain ⟨hal, hav⟩ := args_eval hs hargs
  obtain ⟨x, y, hxy⟩ : ∃ x y, xs.toList.map a.eval = [x, y] := by
    match h : xs.toList.map a.eval, hal with
    | [x, y], _ => exact ⟨x, y, rfl⟩
  rw [hxy] at hav
  have hx := hav 0 _ x rfl rfl
  obtain ⟨p, cap, rfl⟩ : ∃ p cap, x = .slice p 0 cap := by
    cases hx with
    | d _ _ h => cases h with | sl _ _ _ a cap => exact ⟨_, _, rfl⟩
  have hrun : (execOp a.eval o).run c.P w = .ok (.enter f #[.slice p 0 cap, y]) w := by
    rw [exec_call (caps := []) hf ho hfv, hxy]; rfl
  unfold Oper.wp
  rw [hrun]
  simp only [Oper.upon]
  refine (hS.none p cap y w).mono ?_
  rintro e w' ⟨rfl, rfl⟩
  exact hK g _ _ w' rfl (hs.put o.dst (dok_spec hd) (.tup [] [] rfl (by intro j u z h1; simp at h1)))
end
/-- Two calls one behind the other: the second works on what the first has made. -/
def Fn2 (P : Program) (f1 f2 : FuncId) (args : List V) (post : V → Prop) : Prop := ∀ (w : World) (out : Nat → Prop) (g : Nat → Nat × Nat) (xs : List Value), (∀ b, out b → b < w.heap.size) → VReps w (fun b => ¬ out b) g args xs →
  Calls P f1 xs.toArray w fun e w1 => ∃ x1, e = .returned x1 ∧ Below w.heap.size w w1 ∧ Calls P f2 #[x1] w1 fun e w2 => ∃ v x, e = .returned x ∧ post v ∧ v.pure ∧ VRep w2 (fun b => ¬ out b) g v x ∧ Below w.heap.size w w2
theorem Fn2.intro {P : Program} {f1 f2 : FuncId} {fn : Func} {code : Code} {n : Nat} {rs : List ResultVar} {args : List V} {post1 : V → List (Nat × Row) → Prop} {post : V → Prop} (h1 : FnO P f1 args post1) (hf : Is P f2 fn code n rs) (hn0 : 1 ≤ n)
    (h : ∀ v H, post1 v H → ∀ w0 out, AW ⟨P, w0, out, []⟩ code (QF P rs post) ⟨n, [(0, v)], H, []⟩) : Fn2 P f1 f2 args post := by
  intro w out g xs hout hx
  refine (h1 w out g xs hout hx).mono ?_
  rintro e w1 ⟨v, x1, g', H, rfl, hp, hcl, hO, hv, hb⟩
  refine ⟨x1, rfl, hb, ?_⟩
  refine calls_of_wp hf.func hf.body ?_
  have hs : Sim ⟨P, w, out, []⟩ g' ⟨n, [(0, v)], H, []⟩ { tmps := #[x1] ++ Array.replicate (fn.ntmps - 1) undef, defers := [] } w1 := by
    refine ⟨?_, rfl, ?_, hO.nul, hO.obj, by simp, hO.inj, hO.new, hout, hb⟩
    · simp [hf.ntmps]; omega
    · intro i u hu
      simp only [fnd] at hu
      split at hu
      · rename_i e
        simp only [beq_iff_eq] at e
        subst e
        simp only [Option.some.injEq] at hu
        subst hu
        exact ⟨x1, by rw [Array.getElem?_append_left (by simp)]; rfl, hv⟩
      · cases hu
  refine wp_mono (h v H hp w out g' _ w1 hs) fun e a' w' hq => ?_
  obtain ⟨g2, s', h2, h3⟩ := hq
  have fin : (∃ vs, resL P s' rs vs ∧ post (tupOf vs) ∧ (tupOf vs).pure) → a'.defers = [] ∧ ∃ v, (results fn a'.tmps).run P w' = .ok v w' ∧ ∃ v_1 x, Ending.returned v = .returned x ∧ post v_1 ∧ v_1.pure ∧ VRep w' (fun b => ¬ out b) g v_1 x ∧ Below w.heap.size w w' := by
    rintro ⟨vs, k1, k2, k3⟩
    obtain ⟨x, k4, k5⟩ := run_results (c := ⟨P, w, out, []⟩) hf.results h3 k1
    exact ⟨h3.defers, x, k5, _, x, rfl, k2, k3, (k4.repure k3).mono Cells.rfl (fun b hb _ => hb.1) (fun r _ => rfl), h3.below⟩
  cases e with
  | normal => exact fin h2
  | ret => exact fin h2
  | _ => exact h2.elim
theorem Fn2.mono {P : Program} {f1 f2 : FuncId} {args : List V} {post post' : V → Prop} (h : Fn2 P f1 f2 args post) (hp : ∀ v, post v → post' v) : Fn2 P f1 f2 args post' := fun w out g xs h1 h2 =>
  (h w out g xs h1 h2).mono fun e w1 ⟨x1, e1, b1, k⟩ => ⟨x1, e1, b1, k.mono fun e w2 ⟨v, x, a1, a2, a3⟩ => ⟨v, x, a1, hp v a2, a3⟩⟩
section
variable {c : Cx} {s : S} {Q : Exit → S → Prop} {L : List Oper} {need : Nat → Bool} {l : List (Nat × Bool)} {i j : Nat} {o1 o2 : Oper}
theorem AD2.call2 {f1 f2 : FuncId} {fn1 fn2 : Func} {code1 code2 : Code} {n1 n2 : Nat} {rs1 rs2 : List ResultVar} {args : List V} {post : V → Prop} {fx1 fx2 : Operand} {xs1 : Array Operand} {ts1 ts2 : Array TypeId} {d1 : Nat}
    (hi1 : L[i]? = some o1) (hg1 : o1.guard = none) (hi2 : L[j]? = some o2) (hg2 : o2.guard = none) (hfn : Fn2 c.P f1 f2 args post) (hf1 : Is c.P f1 fn1 code1 n1 rs1) (hf2 : Is c.P f2 fn2 code2 n2 rs2)
    (ho1 : o1.op = .call { callee := .value fx1, args := xs1, argTypes := ts1 }) (hfx1 : s.ev fx1 = some (.fn f1 [])) (hargs : xs1.toList.map s.ev = args.map some) (hd1 : o1.dst = some d1) (hdk : d1 < s.n)
    (ho2 : o2.op = .call { callee := .value fx2, args := #[.tmp d1], argTypes := ts2 }) (hfx2 : (s.put (some d1) .junk).ev fx2 = some (.fn f2 [])) (hd : dok s o2 = true)
    (hN : ∀ v, post v → v.pure → AD2 c L.toArray Q need l ((s.put (some d1) .junk).put o2.dst v)) : AD2 c L.toArray Q need ((i, false) :: (j, false) :: l) s := by
  intro W g a w hs hbW
  have hfx1' : a.eval fx1 = .func (.func f1) #[] ([] : List Value).toArray := by
    have h := hs.ev hfx1
    generalize a.eval fx1 = u at h
    cases h with
    | fn _ _ cs hl _ =>
      obtain rfl : cs = [] := by cases cs with | nil => rfl | cons => simp at hl
      rfl
  have hx : VReps w (fun b => ¬ ¬ qt c s.H g b) g args (xs1.toList.map a.eval) := by
    refine ⟨by simpa using (congrArg List.length hargs).symm, fun j u y hu hy => ?_⟩
    have h1 := congrArg (fun l => l[j]?) hargs
    simp only [List.getElem?_map, hu, Option.map_some] at h1 hy
    cases h2 : xs1.toList[j]? with
    | none => rw [h2] at h1; cases h1
    | some p =>
      rw [h2] at h1 hy
      simp only [Option.map_some, Option.some.injEq] at h1 hy
      subst hy
      exact (hs.ev h1).mono Cells.rfl (fun b hb _ => not_not_intro hb) (fun r _ => rfl)
  have hlow : ∀ b, ¬ qt c s.H g b → b < w.heap.size := by
    intro b hb
    rcases Classical.em (c.out b) with h | h
    · exact Nat.lt_of_lt_of_le (hs.low b h) hs.below.size
    · rcases Classical.em (∃ r row, fnd s.H r = some row ∧ row.nil = false ∧ (g r).1 = b) with ⟨r, row, h1, h2, rfl⟩ | h'
      · obtain ⟨arr, h3, _⟩ := hs.obj r row h1 h2
        exact (Array.getElem?_eq_some_iff.1 h3).1
      · exact absurd ⟨h, fun r row h1 h2 h3 => h' ⟨r, row, h1, h2, h3⟩⟩ hb
  refine wpOp_of (by simpa using hi1) hg1 ?_
  unfold Oper.wp
  rw [exec_call (caps := []) hf1 ho1 hfx1']
  simp only [Oper.upon, List.append_nil]
  refine (hfn w (fun b => ¬ qt c s.H g b) g _ hlow hx).mono ?_
  rintro e w1 ⟨x1, rfl, hb1, hcall⟩
  refine ⟨fun _ => hbW.trans (hb1.mono hbW.size), ?_⟩
  have hs1 : Sim c g (s.put (some d1) .junk) (a.put o1.dst x1) w1 := by
    rw [hd1]
    exact (hs.move hb1).put (some d1) (fun k hk => by cases hk; exact hdk) (.junk _)
  have hfx2' : (a.put o1.dst x1).eval fx2 = .func (.func f2) #[] ([] : List Value).toArray := by
    have h := hs1.ev hfx2
    generalize (a.put o1.dst x1).eval fx2 = u at h
    cases h with
    | fn _ _ cs hl _ =>
      obtain rfl : cs = [] := by cases cs with | nil => rfl | cons => simp at hl
      rfl
  have hx1 : (a.put o1.dst x1).eval (.tmp d1) = x1 := by
    have hsz := hs.size
    rw [hd1]
    simp [Act.put, Act.eval, hsz, hdk]
  refine wpOp_of (by simpa using hi2) hg2 ?_
  unfold Oper.wp
  rw [exec_call (caps := []) hf2 ho2 hfx2']
  simp only [Oper.upon, List.append_nil, List.map_cons, List.map_nil]
  rw [hx1]
  refine hcall.mono ?_
  rintro e w2 ⟨v, x, rfl, hp, hpu, hv, hb2⟩
  refine ⟨fun _ => hbW.trans (hb2.mono hbW.size), ?_⟩
  refine hN v hp hpu W g _ w2 ?_ (hbW.trans (hb2.mono hbW.size))
  have hs2 : Sim c g (s.put (some d1) .junk) (a.put o1.dst x1) w2 := by
    rw [hd1]
    exact (hs.move hb2).put (some d1) (fun k hk => by cases hk; exact hdk) (.junk _)
  exact hs2.put o2.dst (dok_spec (s := s.put (some d1) .junk) hd) (hv.mono Cells.rfl (fun b hb _ => Classical.not_not.1 hb) (fun _ _ => rfl))
end
end Go.Proofs.Ytjbldphpkkmdpaa
