/- Part 19 of what the law SameSames rests on. -/
import Derived.Shelf.SlSortCmp.NoneTotal
import Derived.Test.YthiknkcigcglkaaGreatDoorPkSS16
namespace Go.Proofs.YthiknkcigcglkaaGreatDoor
open Go.RowKit
open Go.Proofs.Tryz
open Bool (false_eq_true)
open List (append_nil ext_getElem? flatMap_cons getD_eq_getElem?_getD length_append length_cons length_nil map_append map_cons map_nil mem_append mem_cons mem_map mem_of_getElem? mem_singleton not_mem_nil set_cons_succ set_cons_zero)
open Nat (le_refl le_trans lt_of_lt_of_le zero_add)
open Option (map_some)
set_option linter.unusedSimpArgs false
set_option linter.unusedVariables false
set_option maxRecDepth 100000
set_option maxHeartbeats 8000000
open Go.Sort (HoldsK grow)
open Go.Shelf Go.RowKit
open Go.Sort (HoldsK grow SWO)
open Go.Sort (grow alloc_eq_grow grow_grow)
variable {f gf kf : FuncId} {fn : Func} {code : Code} {k n nn p q x0 : Nat} {rs : List ResultVar} {sts : List St} {w : World} {Dn : List Bool} {lt : Ar → Ar → Bool} {oi oj ok : Oper} {listed : Array Bool}
instance : Inhabited Ar := ⟨⟨0, 0, 0, 0⟩⟩
def wH (a : Ar) : List Value := [.int .i64 a.i, .int .i64 a.o, .int .i64 a.w, .int .i64 a.t]
theorem jR9 (x : Ar) : ∀ v ∈ wH x, v.oneCell' = true := by
  intro v hv; simp only [wH, mem_cons, not_mem_nil, or_false] at hv
  rcases hv with rfl | rfl | rfl | rfl <;> rfl
abbrev uB (a : Ar) : List V := (arD a).map V.d
structure jS0 (P : Program) (f : FuncId) (cf : Ar → Ar → Int) (res : List Ar → List Ar) : Prop where
  run : ∀ (g : FuncId) (cb : Array Value) (blk cap : Nat) (d : Array Ar) (w : World), (∀ args w, (callFunc g args).run P w = .ok (.enter g args) w) → CmpLays P g cb wH 4 cf blk 0 d.size w → HoldsK wH 4 w blk 0 d → blk < w.heap.size → d.size < 4611686018427387904 →
    Calls P f #[.slice (some ⟨blk, 0, none⟩) d.size cap, .func (.func g) #[] cb] w fun e w' => e = .returned (.tuple #[]) ∧ ∃ n os, w' = sortWorldK wH 4 w blk 0 n (res d.toList).toArray os
  none : ∀ (p : Option Addr) (cap : Nat) (fv : Value) (w : World), Calls P f #[.slice p 0 cap, fv] w fun e w' => e = .returned (.tuple #[]) ∧ w' = w
  len : ∀ l, (res l).length = l.length
theorem qE8 (l : List Ar) (j : Nat) (h : j < l.length * 4) : (l.flatMap uB)[j]? = some (V.d (.p ((wH l.toArray[j / 4]!)[j % 4]!))) := by
  induction l generalizing j with
  | nil => simp at h
  | cons a l ih =>
    rw [flatMap_cons]
    match j, h with
    | 0, _ => rfl
    | 1, _ => rfl
    | 2, _ => rfl
    | 3, _ => rfl
    | j + 4, h =>
      simp only [length_cons] at h; have h2 := ih j zg
      rw [show (uB a ++ l.flatMap uB)[j + 4]? = (l.flatMap uB)[j]? from rfl, h2]
      have e1 : (j + 4) / 4 = j / 4 + 1 := by omega
      have e2 : (j + 4) % 4 = j % 4 := by omega
      rw [e1, e2]; have h3 : j / 4 < l.length := by omega
      simp [h3]
theorem qE9 (l : List Ar) : (l.flatMap uB).length = l.length * 4 := by
  induction l with
  | nil => rfl
  | cons a l ih => rw [flatMap_cons, length_append, ih]; simp; omega
section
variable {c : Cx} {s : S} {o : Oper}
theorem jH0 {gf kf : FuncId} {cf : Ar → Ar → Int} {res : List Ar → List Ar} {fx : Operand} {xs : Array Operand} {tys : Array TypeId} {r rk n : Nat} {fl : Bool} {ty : TypeId} {l : List Ar} {rowk : Row} (hf : Is c.P f fn code nn rs) (hS : jS0 c.P f cf res)
    (ho : o.op = .call { callee := .value fx, args := xs, argTypes := tys }) (wc : s.ev fx = some (.fn f [])) (xJ : xs.toList.map s.ev = [.own r 4 n fl, .fn gf [.ref rk 0]].map some) (hr : fnd s.H r = some ⟨ty, l.flatMap uB, fl, 4⟩) (hn : l.length = n) (hnb : n ≤ 1000000)
    (hk : fnd s.H rk = some rowk) (xU : rowk.nil = false) (hkc : rowk.cells[0]? = some (.fn kf [])) (zT : rk ≠ r) (hd : dok s o = true) (eg : ∀ args w, (callFunc gf args).run c.P w = .ok (.enter gf args) w)
    (xM : ∀ (bk : Nat) (W : World) (a b : Ar), W.cell? ⟨bk, 0, none⟩ = some (.func (.func kf) #[] #[]) → Calls c.P gf #[.agg (wH a).toArray, .agg (wH b).toArray, .pointer (some ⟨bk, 0, none⟩)] W fun e w' => e = .returned (.int .i64 (cf a b)) ∧ ∃ q os', w' = grow (W.drewN q) os') :
    vm c o s (fun s' => s' = ({ s with H := (r, ⟨ty, (res l).flatMap uB, fl, 4⟩) :: s.H } : S).put o.dst (.tup [])) := by
  intro g a w hs K Q hK; obtain ⟨cs, hfv, qW0, _⟩ := bI hs wc; obtain rfl : cs = [] := by cases cs with | nil => rfl | cons => simp at qW0
  obtain ⟨wm, hav⟩ := uv hs xJ
  obtain ⟨x, y, hxy⟩ : ∃ x y, xs.toList.map a.eval = [x, y] := by
    match h : xs.toList.map a.eval, wm with
    | [x, y], _ => exact ⟨x, y, rfl⟩
  rw [hxy] at hav; have hx := hav 0 _ x rfl rfl; have hy := hav 1 _ y rfl rfl
  have zv : (execOp a.eval o).run c.P w = .ok (.enter f #[x, y]) w := by
    rw [wj (caps := []) hf ho hfv, hxy]; rfl
  have qp8 : ∀ w', Sim c g { s with H := (r, ⟨ty, (res l).flatMap uB, fl, 4⟩) :: s.H } a w' → K (a.put o.dst (.tuple #[])) w' := fun w' h =>
    hK g _ _ w' rfl (h.put o.dst (zJ (s := { s with H := (r, ⟨ty, (res l).flatMap uB, fl, 4⟩) :: s.H }) hd) (.tup [] [] rfl (by intro j u z h1; simp at h1)))
  unfold Oper.wp; rw [zv]; simp only [Oper.upon]
  by_cases hl0 : l = []
  · subst hl0
    have hr0 : res [] = [] := List.length_eq_zero_iff.1 (hS.len []); obtain rfl : n = 0 := by simpa using hn.symm
    have hxs : ∃ p cap, x = .slice p 0 cap := by
      cases hx with
      | own => exact ⟨_, _, rfl⟩
      | ownNil => exact ⟨_, _, rfl⟩
    obtain ⟨p, cap, rfl⟩ := hxs; refine (hS.none p cap y w).mono ?_; rintro e w' ⟨rfl, rfl⟩
    refine qp8 _ (hs.less ⟨rfl, fun i v h => ⟨v, h, .refl _⟩, fun k row' h => ⟨row', ?_, rfl, rfl, rfl, fun j v hv => ⟨v, hv, .refl _⟩⟩, fun j v h => ⟨v, h, .refl _⟩⟩)
    simp only [fnd] at h
    split at h
    · rename_i e
      simp only [beq_iff_eq] at e; subst e; rw [hr0] at h; rw [hr]; exact h
    exact h
  have gA : 0 < l.length := List.length_pos_iff.2 hl0
  have xA : fl = false := by
    cases fl with
    | false => rfl
    | true =>
      have h1 := congrArg List.length (hs.nul r _ hr rfl); simp only [qE9, length_nil] at h1; omega
  subst xA
  obtain ⟨cap, hx1, vK⟩ : ∃ cap, x = .slice (some ⟨(g r).1, 0, none⟩) n cap ∧ n ≤ (g r).2 := by
    cases hx with
    | own _ _ _ hn' hc' => exact ⟨_, rfl, hn'⟩
  subst hx1
  obtain ⟨bk, rfl, hbk⟩ : ∃ bk : Nat, y = .func (.func gf) #[] #[.pointer (some ⟨bk, 0, none⟩)] ∧ bk = (g rk).1 := by
    cases hy with
    | fn _ _ cs' qh7 h' =>
      match cs', qh7 with
      | [z], _ =>
        have h2 := h' 0 _ z rfl rfl
        cases h2
        exact ⟨_, rfl, rfl⟩
  obtain ⟨arr, ha, xz, hc⟩ := hs.obj r _ hr rfl; simp only at ha xz hc; have xz := xz zj
  have k69 : bk ≠ (g r).1 := fun e => zT (hs.inj rk r _ _ hk xU hr rfl (hbk ▸ e))
  have jS1 : w.cell? ⟨bk, 0, none⟩ = some (.func (.func kf) #[] #[]) := by
    obtain ⟨ak, h1, _, h3⟩ := hs.obj rk _ hk xU; obtain ⟨z, h4, h5⟩ := h3 0 _ hkc
    have hz : z = .func (.func kf) #[] #[] := by
      cases h5 with
      | fn _ _ cs' qh7 h' =>
        match cs', qh7 with
        | [], _ => rfl
    rw [hbk]; simp only [World.cell?, h1, Option.isSome_none, false_eq_true, if_false]; rw [h4, hz]
  have zk : (g r).1 < w.heap.size := (Array.getElem?_eq_some_iff.1 ha).1
  have hH : Sort.HoldsK wH 4 w (g r).1 0 l.toArray := by
    intro j hj; rw [Sort.size_flatK] at hj; have hj' : j < l.length * 4 := by simpa using hj
    obtain ⟨z, h4, h5⟩ := hc j _ (qE8 l j hj')
    have hz : z = (wH l.toArray[j / 4]!)[j % 4]! := by
      cases h5 with
      | d _ _ h6 => cases h6; rfl
    refine ⟨?_, ?_⟩
    · rw [Sort.get_flatK _ _ _ _ (by simpa using hj')]
      simp only [World.cell?, ha, Option.isSome_none, false_eq_true, if_false, zero_add, id]; rw [h4, hz]
    simp [World.frozen?, ha]
  have qF0 : CmpLays c.P gf #[.pointer (some ⟨bk, 0, none⟩)] wH 4 cf (g r).1 0 l.toArray.size w := by
    intro m os dk hdk a b; refine xM bk _ a b ?_; rw [← jS1]
    have hbl : bk < w.heap.size := by
      obtain ⟨ak, h1, _, _⟩ := hs.obj rk _ hk xU; rw [hbk]; exact (Array.getElem?_eq_some_iff.1 h1).1
    refine World.cell?_of_block ?_; unfold sortWorldK Sort.grow Sort.putRowK Sort.putRow Sort.mapBlock Sort.ahead; simp only
    rw [Array.getElem?_append_left (by simpa using hbl), Array.getElem?_modify, if_neg (fun e => k69 e.symm)]
  have hn2 : n = l.toArray.size := by simp [hn]
  have key := hS.run gf #[.pointer (some ⟨bk, 0, none⟩)] (g r).1 cap l.toArray w eg qF0 hH zk (by simp; omega); rw [← hn2] at key; refine key.mono ?_; rintro e w' ⟨rfl, m, os, rfl⟩; refine qp8 _ ?_; have hrl := hS.len l; refine Sim.move (w := Sort.putRowK wH 4 (Sort.ahead w m) (g r).1 0 (res l).toArray) ?_ ?_
  · refine Sim.setRow hs (row := ⟨ty, l.flatMap uB, false, 4⟩) (row' := ⟨ty, (res l).flatMap uB, false, 4⟩) (arr' := Sort.putCells id 0 (Sort.flatK wH 4 (res l).toArray) arr) hr rfl rfl rfl rfl ?_ ?_ ?_ rfl rfl rfl ?_ ?_
    · simp only [Sort.putRowK, Sort.putRow, Sort.mapBlock, Sort.ahead, Array.getElem?_modify, if_true, ha, map_some, Sort.onCells]
    · intro b hb
      simp only [Sort.putRowK, Sort.putRow, Sort.mapBlock, Sort.ahead, Array.getElem?_modify]
      rw [if_neg (fun e => hb e.symm)]
    · simp [Sort.putRowK, Sort.putRow, Sort.mapBlock, Sort.ahead]
    · intro arr0 ty0 h0
      rw [ha] at h0; simp only [Option.some.injEq, Obj.cells.injEq, and_true] at h0; obtain ⟨rfl, _⟩ := h0; simp [Sort.putCells]
    intro j v hv; simp only at hv
    have hj : j < (res l).length * 4 := by
      rw [← qE9]; exact (List.getElem?_eq_some_iff.1 hv).1
    rw [qE8 _ _ hj] at hv; simp only [Option.some.injEq] at hv; subst hv; have hja : j < arr.size := by omega
    refine ⟨_, ?_, .d _ _ (.p _)⟩; simp only [Sort.putCells, Array.getElem?_mapIdx]; rw [Array.getElem?_eq_getElem hja, map_some, if_pos (by simp; omega), Nat.sub_zero, Sort.get_flatK _ _ _ _ (by simpa using hj)]; rfl
  exact ⟨rfl, rfl, rfl, by simp [Sort.grow, sortWorldK], fun k hk => by
    unfold sortWorldK Sort.grow; simp only
    rw [Array.getElem?_append_left hk]⟩
end
def Fn2 (P : Program) (f1 f2 : FuncId) (args : List V) (post : V → Prop) : Prop := ∀ (w : World) (out : Nat → Prop) (g : Nat → Nat × Nat) (xs : List Value), (∀ b, out b → b < w.heap.size) → y9 w (fun b => ¬ out b) g args xs →
  Calls P f1 xs.toArray w fun e w1 => ∃ x1, e = .returned x1 ∧ Below w.heap.size w w1 ∧ Calls P f2 #[x1] w1 fun e w2 => ∃ v x, e = .returned x ∧ post v ∧ v.pure ∧ VRep w2 (fun b => ¬ out b) g v x ∧ Below w.heap.size w w2
theorem Fn2.intro {P : Program} {f1 f2 : FuncId} {fn : Func} {code : Code} {n : Nat} {rs : List ResultVar} {args : List V} {post1 : V → List (Nat × Row) → Prop} {post : V → Prop} (h1 : FnO P f1 args post1) (hf : Is P f2 fn code n rs) (hn0 : 1 ≤ n)
    (h : ∀ v H, post1 v H → ∀ w0 out, AW ⟨P, w0, out, [], []⟩ code (QF P rs post) ⟨n, [(0, v)], H, []⟩) : Fn2 P f1 f2 args post := by
  intro w out g xs bE hx; refine (h1 w out g xs bE hx).mono ?_; rintro e w1 ⟨v, x1, g', H, rfl, hp, xM, hO, hv, hb⟩; refine ⟨x1, rfl, hb, ?_⟩; refine calls_of_wp hf.func hf.body ?_
  have hs : Sim ⟨P, w, out, [], []⟩ g' ⟨n, [(0, v)], H, []⟩ { tmps := #[x1] ++ Array.replicate (fn.ntmps - 1) undef, defers := [] } w1 := by
    refine ⟨?_, rfl, ?_, hO.nul, hO.obj, by simp, hO.inj, hO.new, bE, hb⟩
    · simp [hf.ntmps]; omega
    intro i u hu; simp only [fnd] at hu
    split at hu
    · rename_i e
      simp only [beq_iff_eq] at e; subst e; simp only [Option.some.injEq] at hu; subst hu; exact ⟨x1, by rw [Array.getElem?_append_left zx]; rfl, hv⟩
    cases hu
  refine wp_mono (h v H hp w out g' _ w1 hs) fun e a' w' hq => ?_; obtain ⟨g2, s', h2, h3⟩ := hq
  have fin : (∃ vs, uX P s' rs vs ∧ post (zZ vs) ∧ (zZ vs).pure) → a'.defers = [] ∧ ∃ v, (results fn a'.tmps).run P w' = .ok v w' ∧ ∃ v_1 x, Ending.returned v = .returned x ∧ post v_1 ∧ v_1.pure ∧ VRep w' (fun b => ¬ out b) g v_1 x ∧ Below w.heap.size w w' := by
    rintro ⟨vs, k1, k2, k3⟩; obtain ⟨x, k4, k5⟩ := uD (c := ⟨P, w, out, [], []⟩) hf.results h3 k1
    exact ⟨h3.defers, x, k5, _, x, rfl, k2, k3, (k4.repure k3).mono Cells.rfl (fun b hb _ => hb.1) (fun r _ => rfl), h3.below⟩
  cases e with
  | normal => exact fin h2
  | ret => exact fin h2
  | _ => exact h2.elim
section
variable {c : Cx} {s : S} {Q : Exit → S → Prop} {L : List Oper} {need : Nat → Bool} {l : List (Nat × Bool)} {i j : Nat} {o1 o2 : Oper}
theorem kt {f1 f2 : FuncId} {fn1 fn2 : Func} {code1 code2 : Code} {n1 n2 : Nat} {rs1 rs2 : List ResultVar} {args : List V} {post : V → Prop} {fx1 fx2 : Operand} {xs1 : Array Operand} {ts1 ts2 : Array TypeId} {d1 : Nat}
    (hi1 : L[i]? = some o1) (hg1 : o1.guard = none) (hi2 : L[j]? = some o2) (hg2 : o2.guard = none) (xY : Fn2 c.P f1 f2 args post) (hf1 : Is c.P f1 fn1 code1 n1 rs1) (hf2 : Is c.P f2 fn2 code2 n2 rs2)
    (ho1 : o1.op = .call { callee := .value fx1, args := xs1, argTypes := ts1 }) (k70 : s.ev fx1 = some (.fn f1 [])) (xJ : xs1.toList.map s.ev = args.map some) (hd1 : o1.dst = some d1) (hdk : d1 < s.n)
    (ho2 : o2.op = .call { callee := .value fx2, args := #[.tmp d1], argTypes := ts2 }) (k71 : (s.put (some d1) .junk).ev fx2 = some (.fn f2 [])) (hd : dok s o2 = true)
    (hN : ∀ v, post v → v.pure → AD2 c L.toArray Q need l ((s.put (some d1) .junk).put o2.dst v)) : AD2 c L.toArray Q need ((i, false) :: (j, false) :: l) s := by
  intro W g a w hs hbW
  have jY4 : a.eval fx1 = .func (.func f1) #[] ([] : List Value).toArray := by
    have h := hs.ev k70; generalize a.eval fx1 = u at h
    cases h with
    | fn _ _ cs hl _ =>
      obtain rfl : cs = [] := by cases cs with | nil => rfl | cons => simp at hl
      rfl
  have hx : y9 w (fun b => ¬ ¬ qt c s.H g b) g args (xs1.toList.map a.eval) := by
    refine ⟨by simpa using (congrArg List.length xJ).symm, fun j u y hu hy => ?_⟩; have h1 := congrArg (fun l => l[j]?) xJ; simp only [List.getElem?_map, hu, map_some] at h1 hy
    cases h2 : xs1.toList[j]? with
    | none => rw [h2] at h1; cases h1
    | some p =>
      rw [h2] at h1 hy; simp only [map_some, Option.some.injEq] at h1 hy; subst hy
      exact (hs.ev h1).mono Cells.rfl (fun b hb _ => not_not_intro hb) (fun r _ => rfl)
  have vW : ∀ b, ¬ qt c s.H g b → b < w.heap.size := by
    intro b hb
    rcases Classical.em (c.out b) with h | h
    · exact lt_of_lt_of_le (hs.low b h) hs.below.size
    rcases Classical.em (∃ r row, fnd s.H r = some row ∧ row.nil = false ∧ (g r).1 = b) with ⟨r, row, h1, h2, rfl⟩ | h'
    · obtain ⟨arr, h3, _⟩ := hs.obj r row h1 h2
      exact (Array.getElem?_eq_some_iff.1 h3).1
    exact absurd ⟨h, fun r row h1 h2 h3 => h' ⟨r, row, h1, h2, h3⟩⟩ hb
  refine u6 (by simpa using hi1) hg1 ?_; unfold Oper.wp; rw [wj (caps := []) hf1 ho1 jY4]; simp only [Oper.upon, append_nil]; refine (xY w (fun b => ¬ qt c s.H g b) g _ vW hx).mono ?_; rintro e w1 ⟨x1, rfl, hb1, qp7⟩; refine ⟨fun _ => hbW.trans (hb1.mono hbW.size), ?_⟩
  have hs1 : Sim c g (s.put (some d1) .junk) (a.put o1.dst x1) w1 := by
    rw [hd1]
    exact (hs.move hb1).put (some d1) (fun k hk => by cases hk; exact hdk) (.junk _)
  have jY5 : (a.put o1.dst x1).eval fx2 = .func (.func f2) #[] ([] : List Value).toArray := by
    have h := hs1.ev k71; generalize (a.put o1.dst x1).eval fx2 = u at h
    cases h with
    | fn _ _ cs hl _ =>
      obtain rfl : cs = [] := by cases cs with | nil => rfl | cons => simp at hl
      rfl
  have hx1 : (a.put o1.dst x1).eval (.tmp d1) = x1 := by
    have xz := hs.size; rw [hd1]; simp [Act.put, Act.eval, xz, hdk]
  refine u6 (by simpa using hi2) hg2 ?_; unfold Oper.wp; rw [wj (caps := []) hf2 ho2 jY5]; simp only [Oper.upon, append_nil, map_cons, map_nil]; rw [hx1]; refine qp7.mono ?_; rintro e w2 ⟨v, x, rfl, hp, hpu, hv, hb2⟩; refine ⟨fun _ => hbW.trans (hb2.mono hbW.size), ?_⟩; refine hN v hp hpu W g _ w2 ?_ (hbW.trans (hb2.mono hbW.size))
  have hs2 : Sim c g (s.put (some d1) .junk) (a.put o1.dst x1) w2 := by
    rw [hd1]
    exact (hs.move hb2).put (some d1) (fun k hk => by cases hk; exact hdk) (.junk _)
  exact hs2.put o2.dst (zJ (s := s.put (some d1) .junk) hd) (hv.mono Cells.rfl (fun b hb _ => Classical.not_not.1 hb) (fun _ _ => rfl))
end
def emp (a : Ar) : Bool := decide (a.i = 0 ∧ a.o = 0)
def eE (sts : List St) (q p w : Nat) : Prop := ∃ a ∈ stA sts q, emp a = true ∧ a.t = (p : Int) ∧ a.w = (w : Int)
def eI (q p d : Nat) : Prop := p = q ∧ d = 0
def mnS (p : Nat) (x : Nat) (a : Ar) : Nat := if emp a = true ∧ a.t = (p : Int) ∧ a.w < (x : Int) then a.w.toNat else x
def mnA (p : Nat) (x : Nat) (l : List Ar) : Nat := l.foldl (mnS p) x
theorem qu2 (p x : Nat) {l : List Ar} {i : Nat} {a : Ar} (h : l[i]? = some a) : mnA p x (l.take (i + 1)) = mnS p (mnA p x (l.take i)) a := by
  rw [x5 h]; simp [mnA]
theorem jS2 (p x : Nat) (a : Ar) : mnS p x a ≤ x := by unfold mnS; split <;> omega
theorem qz5 (p : Nat) : ∀ (l : List Ar) (x : Nat), mnA p x l ≤ x
  | [], x => le_refl _
  | a :: l, x => le_trans (qz5 p l (mnS p x a)) (jS2 p x a)
theorem j67 (p : Nat) {a : Ar} (he : emp a = true) (ht : a.t = (p : Int)) : ∀ (l : List Ar) (x : Nat), a ∈ l → mnA p x l ≤ a.w.toNat
  | [], x, h => by cases h
  | b :: l, x, h => by
    rcases List.mem_cons.1 h with rfl | h
    · refine le_trans (qz5 p l _) ?_
      unfold mnS
      split
      · exact le_refl _
      grind
    exact j67 p he ht l _ h
theorem jl0 (p : Nat) : ∀ (l : List Ar) (x : Nat), mnA p x l = x ∨ ∃ a ∈ l, emp a = true ∧ a.t = (p : Int) ∧ mnA p x l = a.w.toNat
  | [], x => .inl rfl
  | b :: l, x => by
    rcases jl0 p l (mnS p x b) with h | ⟨a, h1, h2⟩
    · grind [emp, mnA, mnS]
    exact .inr ⟨a, by simp [h1], h2⟩
theorem qp9 {l : List St} {x : St} (h : x ∈ l) : x.arcs.length ≤ xp l := by
  obtain ⟨i, hi⟩ := List.getElem?_of_mem h
  induction l generalizing i with
  | nil => cases h
  | cons y l ih =>
    cases i with
    | zero => simp at hi; subst hi; simp [xp]
    | succ i =>
      have := ih (mem_of_getElem? (by simpa using hi)) i (by simpa using hi); simp only [xp, map_cons, List.sum_cons] at this ⊢; omega
def upd (k : Nat) (D : Nat → Nat → Nat) (q p : Nat) : Nat := min (D q p) (D q k + D k p)
def fwI (q p : Nat) : Nat := if p = q then 0 else big
def fw (sts : List St) : Nat → Nat → Nat → Nat
  | 0 => fun q p => mnA p (fwI q p) (stA sts q)
  | k + 1 => upd k (fw sts k)
theorem jH1 {E : Nat → Nat → Nat → Prop} {r d d' : Nat} (h : Pth (eI q) E r d) (h' : Pth (eI r) E p d') : Pth (eI q) E p (d + d') := by
  induction h' with
  | init p d0 h0 =>
    obtain ⟨rfl, rfl⟩ := h0; exact h
  | step p s d0 w h1 e ih =>
    rw [← Nat.add_assoc]; exact .step _ _ _ _ ih e
structure jS3 (sts : List St) (k : Nat) (D : Nat → Nat → Nat) : Prop where
  le : ∀ q p, D q p ≤ big
  diag : ∀ q, D q q = 0
  path : ∀ q p, D q p < big → Pth (eI q) (eE sts) p (D q p)
  edge : ∀ q p w, eE sts q p w → D q p ≤ w
  tri : ∀ j q p, j < k → D q p ≤ D q j + D j p
theorem qz6 {sts : List St} (hw : ∀ q, ∀ a ∈ stA sts q, 0 ≤ a.w) : ∀ k, jS3 sts k (fw sts k)
  | 0 => by
    have h0 : ∀ q p, fwI q p ≤ big := fun q p => by unfold fwI; split <;> omega
    refine ⟨fun q p => le_trans (qz5 p _ _) (h0 q p), fun q => ?_, fun q p hb => ?_, fun q p w he => ?_, fun j q p hj => absurd hj zg⟩
    · have := qz5 q (stA sts q) (fwI q q)
      have e : fwI q q = 0 := by simp [fwI]
      rw [e] at this
      show mnA q (fwI q q) (stA sts q) = 0
      rw [e]; omega
    · have hb' : mnA p (fwI q p) (stA sts q) < big := hb
      show Pth (eI q) (eE sts) p (mnA p (fwI q p) (stA sts q))
      rcases jl0 p (stA sts q) (fwI q p) with h | ⟨a, h1, h2, h3, h4⟩
      · rw [h] at hb' ⊢
        unfold fwI at hb' ⊢
        by_cases e : p = q
        · rw [if_pos e]; exact .init _ _ ⟨e, rfl⟩
        rw [if_neg e] at hb'; omega
      rw [h4]; have := Pth.step (Init := eI q) (Edge := eE sts) q p 0 a.w.toNat (.init _ _ ⟨rfl, rfl⟩) ⟨a, h1, h2, h3, by have := hw q a h1; omega⟩
      simpa using this
    obtain ⟨a, h1, h2, h3, h4⟩ := he; have := j67 p h2 h3 (stA sts q) (fwI q p) h1
    show mnA p (fwI q p) (stA sts q) ≤ w
    omega
  | k + 1 => by
    have ih := qz6 hw k; generalize hD : fw sts k = D at ih
    show jS3 sts (k + 1) (upd k (fw sts k))
    rw [hD]; refine ⟨fun q p => ?_, fun q => ?_, fun q p hb => ?_, fun q p w he => ?_, fun j q p hj => ?_⟩
    · have := ih.le q p
      unfold upd; omega
    · have := ih.diag q
      unfold upd; omega
    · unfold upd at hb ⊢
      by_cases hc : D q p ≤ D q k + D k p
      · rw [Nat.min_eq_left hc] at hb ⊢; exact ih.path q p hb
      rw [Nat.min_eq_right zg] at hb ⊢; exact jH1 (ih.path q k zg) (ih.path k p zg)
    · have := ih.edge q p w he
      unfold upd; omega
    by_cases e : j = k
    · grind [upd]
    have h1 := ih.tri j q p zg; have h2 := ih.tri j k p zg; have h3 := ih.tri j q k zg; unfold upd; omega
theorem jl1 (sts : List St) (k q p : Nat) : fw sts (k + 1) q p = min (fw sts k q p) (fw sts k q k + fw sts k k p) := rfl
theorem jS4 {sts : List St} (hw : ∀ q, ∀ a ∈ stA sts q, 0 ≤ a.w) (k p : Nat) : fw sts (k + 1) k p = fw sts k k p := by
  have := (qz6 hw k).diag k; rw [jl1]; omega
theorem jS5 {sts : List St} (hw : ∀ q, ∀ a ∈ stA sts q, 0 ≤ a.w) (k q : Nat) : fw sts (k + 1) q k = fw sts k q k := by
  have := (qz6 hw k).diag k; rw [jl1]; omega
noncomputable def hop (sts : List St) (q p : Nat) : Nat := dst (eI q) (eE sts) p
theorem qN7 {w : Nat} (h : eE sts q p w) : q < sts.length := by
  obtain ⟨a, h1, _⟩ := h
  by_cases hq : q < sts.length
  · exact hq
  grind [stA, List.getElem?_eq_none]
theorem jS6 {sts : List St} (hw : ∀ q, ∀ a ∈ stA sts q, 0 ≤ a.w) (hn : sts.length = n) {q : Nat} (hp : p < n) : fw sts n q p = hop sts q p := by
  have ho := qz6 hw n
  have hl : bl (fw sts n q) n = ws (eI q) (eE sts) n := by
    refine (Lst.of_closed ⟨w4 _ _, fun r x h => ?_, fun r x h hb => ?_, fun r x d h hi => ?_⟩ (fun r s w h => hn ▸ qN7 h) fun r s w x y h h1 hb h2 => ?_).eq
    · obtain ⟨_, rfl⟩ := yx h; exact ho.le q r
    · obtain ⟨_, rfl⟩ := yx h; exact ho.path q r hb
    · obtain ⟨_, rfl⟩ := yx h
      obtain ⟨rfl, rfl⟩ := hi; rw [ho.diag]; exact le_refl _
    obtain ⟨_, rfl⟩ := yx h1; obtain ⟨_, rfl⟩ := yx h2; have a1 := ho.edge r s w h; have a2 := ho.tri r q s (hn ▸ qN7 h); omega
  have h1 : (bl (fw sts n q) n)[p]? = (ws (eI q) (eE sts) n)[p]? := by rw [hl]
  rw [w8 hp] at h1; have h2 : (ws (eI q) (eE sts) n)[p]? = some (dst (eI q) (eE sts) p) := by simp [ws, List.getElem?_range hp]
  rw [h2] at h1; exact Option.some.inj h1
structure Nr (sts : List St) (q n : Nat) (L : List Nat) (Dn : List Bool) (k : Nat) : Prop where
  snd : Snd (eI q) (eE sts) n L
  dl : Dn.length = n
  cnt : Dn.count true = k
  bnd : ∀ (r x : Nat), L[r]? = some x → x < big → x ≤ k * 1000000000
  dn : ∀ (r x : Nat), Dn[r]? = some true → L[r]? = some x → x < big
  low : ∀ (r p x y : Nat), Dn[r]? = some true → Dn[p]? = some false → L[r]? = some x → L[p]? = some y → x ≤ y
  cl : ∀ (r p w x y : Nat), Dn[r]? = some true → eE sts r p w → L[r]? = some x → L[p]? = some y → y ≤ x + w
theorem jw1 (sts : List St) (q n : Nat) : Nr sts q n (bl (fwI q) n) (List.replicate n false) 0 := by
  have hF : ∀ r, (List.replicate n false)[r]? ≠ some true := fun r h => by
    rw [List.getElem?_replicate] at h
    split at h
    · simp at h
    cases h
  refine ⟨⟨w4 _ _, fun r x h => ?_, fun r x h hb => ?_, fun r x d h hi => ?_⟩, by simp, by simp [List.count_replicate], fun r x h hb => ?_, fun r x h => absurd h (hF r), fun r p x y h => absurd h (hF r), fun r p w x y h => absurd h (hF r)⟩
  all_goals obtain ⟨_, rfl⟩ := yx h
  · unfold fwI; split <;> omega
  · unfold fwI at hb ⊢
    by_cases e : r = q
    · rw [if_pos e]; exact .init _ _ ⟨e, rfl⟩
    rw [if_neg e] at hb; omega
  · obtain ⟨rfl, rfl⟩ := hi
    simp [fwI]
  grind [fwI]
theorem Nr.done {L : List Nat} (h : Nr sts q n L Dn k) (hn : sts.length = n) (hu : ∀ r x : Nat, Dn[r]? = some false → L[r]? = some x → x = big) : L = bl (hop sts q) n := by
  refine (Lst.of_closed h.snd (fun r s w h => hn ▸ qN7 h) fun r p w x y e hx hb hy => ?_).eq; have hr : r < n := hn ▸ qN7 e; obtain ⟨b, hb'⟩ := zl h.dl hr
  cases b with
  | true => exact h.cl r p w x y hb' e hx hy
  | false => have := hu r x hb' hx; omega
structure NrI (sts : List St) (q n s x0 : Nat) (L : List Nat) (Dn : List Bool) (k : Nat) (A : List Ar) : Prop where
  snd : Snd (eI q) (eE sts) n L
  dl : Dn.length = n
  cnt : Dn.count true = k + 1
  bnd : ∀ (r x : Nat), L[r]? = some x → x < big → x ≤ (k + 1) * 1000000000
  dn : ∀ (r x : Nat), Dn[r]? = some true → L[r]? = some x → x ≤ x0
  und : ∀ (r x : Nat), Dn[r]? = some false → L[r]? = some x → x0 ≤ x
  cl : ∀ (r p w x y : Nat), r ≠ s → Dn[r]? = some true → eE sts r p w → L[r]? = some x → L[p]? = some y → y ≤ x + w
  sx : L[s]? = some x0
  sd : Dn[s]? = some true
  xb : x0 < big
  xk : x0 ≤ k * 1000000000
  arcs : ∀ a ∈ A, emp a = true → ∀ (p y : Nat), a.t = (p : Int) → L[p]? = some y → y ≤ x0 + a.w.toNat
theorem jw2 : ∀ (L : List Bool) {x : Nat}, L[x]? = some false → (L.set x true).count true = L.count true + 1
  | [], x, h => by simp at h
  | b :: L, 0, h => by simp at h; subst h; simp
  | b :: L, x + 1, h => by grind
theorem Nr.take {s : Nat} {L : List Nat} (h : Nr sts q n L Dn k) (hs : Dn[s]? = some false) (hx : L[s]? = some x0) (hb : x0 < big) (hm : ∀ r x : Nat, Dn[r]? = some false → L[r]? = some x → x0 ≤ x) : NrI sts q n s x0 L (Dn.set s true) k [] := by
  have zk : s < Dn.length := (List.getElem?_eq_some_iff.1 hs).1; have uJ : ∀ r b, r ≠ s → (Dn.set s true)[r]? = some b → Dn[r]? = some b := fun r b hr h => by rwa [List.getElem?_set_ne (Ne.symm hr)] at h
  refine ⟨h.snd, by simp [h.dl], by rw [jw2 Dn hs, h.cnt], fun r x h1 h2 => ?_, fun r x h1 h2 => ?_, fun r x h1 h2 => ?_, fun r p w x y h0 h1 e h2 h3 => h.cl r p w x y (uJ r _ h0 h1) e h2 h3, hx, by simp [zk], hb, h.bnd s x0 hx hb, fun a ha => by cases ha⟩
  · exact le_trans (h.bnd r x h1 h2) (Nat.mul_le_mul_right _ (Nat.le_succ k))
  · by_cases e : r = s
    · subst e; rw [hx] at h2; simp at h2; omega
    exact h.low r s x x0 (uJ r _ e h1) hs h2 hx
  grind
theorem NrI.skip {s i : Nat} {L : List Nat} {l : List Ar} {a : Ar} (h : NrI sts q n s x0 L Dn k (l.take i)) (hi : l[i]? = some a) (ha : emp a = true → ∀ (p y : Nat), a.t = (p : Int) → L[p]? = some y → y ≤ x0 + a.w.toNat) : NrI sts q n s x0 L Dn k (l.take (i + 1)) :=
  ⟨h.snd, h.dl, h.cnt, h.bnd, h.dn, h.und, h.cl, h.sx, h.sd, h.xb, h.xk, fun b hb => by
    rw [x5 hi] at hb
    rcases List.mem_append.1 hb with hb | hb
    · exact h.arcs b hb
    simp only [mem_singleton] at hb
    subst hb; exact ha⟩
theorem NrI.less {s i y w : Nat} {L : List Nat} {l : List Ar} {a : Ar} (h : NrI sts q n s x0 L Dn k (l.take i)) (hl : stA sts s = l) (hi : l[i]? = some a) (he : emp a = true) (hp : a.t = (p : Int)) (wa : p < n) (hw : a.w = (w : Int)) (hwm : w ≤ 1000000000) (hy : L[p]? = some y) (zk : x0 + w < y) : NrI sts q n s x0 (L.set p (x0 + w)) Dn k (l.take (i + 1)) := by
  have hE : eE sts s p w := ⟨a, by rw [hl]; exact mem_of_getElem? hi, he, hp, hw⟩; have wl : p < L.length := (List.getElem?_eq_some_iff.1 hy).1; have hyb := h.snd.le p y hy
  have hpd : Dn[p]? = some false := by
    obtain ⟨b, hb⟩ := zl h.dl wa
    cases b with
    | false => exact hb
    | true => have := h.dn p y hb hy; omega
  have hps : p ≠ s := by rintro rfl; rw [h.sd] at hpd; cases hpd
  have wJ : ∀ r z : Nat, (L.set p (x0 + w))[r]? = some z → r = p ∧ z = x0 + w ∨ r ≠ p ∧ L[r]? = some z := fun r z hr => by grind
  refine ⟨h.snd.set hE h.sx h.xb fun y' hy' => by rw [hy] at hy'; simp at hy'; omega, h.dl, h.cnt, fun r z h1 h2 => ?_, fun r z h1 h2 => ?_, fun r z h1 h2 => ?_, fun r t v x z h0 h1 e h2 h3 => ?_, by rw [List.getElem?_set_ne hps]; exact h.sx, h.sd, h.xb, h.xk, fun b hb hbe t z ht hz => ?_⟩
  · rcases wJ r z h1 with ⟨_, rfl⟩ | ⟨_, h3⟩
    · have := h.xk; omega
    exact h.bnd r z h3 h2
  · rcases wJ r z h2 with ⟨rfl, _⟩ | ⟨_, h3⟩
    · rw [hpd] at h1; cases h1
    exact h.dn r z h1 h3
  · rcases wJ r z h2 with ⟨_, rfl⟩ | ⟨_, h3⟩
    · omega
    exact h.und r z h1 h3
  · rcases wJ r x h2 with ⟨rfl, _⟩ | ⟨_, h4⟩
    · rw [hpd] at h1; cases h1
    rcases wJ t z h3 with ⟨rfl, rfl⟩ | ⟨_, h5⟩
    · have := h.cl r t v x y h0 h1 e h4 hy; omega
    exact h.cl r t v x z h0 h1 e h4 h5
  rw [x5 hi] at hb
  rcases wJ t z hz with ⟨rfl, rfl⟩ | ⟨h4, h5⟩
  · rcases List.mem_append.1 hb with hb | hb
    · have := h.arcs b hb hbe t y ht hy; omega
    grind
  rcases List.mem_append.1 hb with hb | hb
  · exact h.arcs b hb hbe t z ht h5
  grind
theorem NrI.done {s : Nat} {L : List Nat} {l : List Ar} (h : NrI sts q n s x0 L Dn k l) (hl : stA sts s = l) : Nr sts q n L Dn (k + 1) := by
  refine ⟨h.snd, h.dl, h.cnt, h.bnd, fun r x h1 h2 => ?_, fun r p x y h1 h2 h3 h4 => ?_, fun r p w x y h1 e h2 h3 => ?_⟩
  · have := h.dn r x h1 h2; have := h.xb; omega
  · have := h.dn r x h1 h3; have := h.und p y h2 h4; omega
  by_cases er : r = s
  · subst er
    obtain ⟨a, a1, a2, a3, a4⟩ := e; rw [h.sx] at h2; simp only [Option.some.injEq] at h2; have := h.arcs a (hl ▸ a1) a2 p y a3 h3; omega
  exact h.cl r p w x y er h1 e h2 h3
def qF1 (D : Nat → Nat) (sts : List St) (p x : Nat) : Nat :=
  match sts[p]? with
  | some s => if D p ≠ big ∧ s.fin ≠ 1000000001 ∧ D p + s.fin.toNat < x then D p + s.fin.toNat else x
  | none => x
def wv (D : Nat → Nat) (sts : List St) : Nat → Nat
  | 0 => big
  | p + 1 => qF1 D sts p (wv D sts p)
theorem qd8 (D : Nat → Nat) (sts : List St) : ∀ p, wv D sts p ≤ big
  | 0 => le_refl _
  | p + 1 => by
    have := qd8 D sts p; simp only [wv, qF1]
    split
    · split <;> omega
    exact this
theorem qK2 {D : Nat → Nat} {s : St} (hs : sts[p]? = some s) (h : D p = big) : wv D sts (p + 1) = wv D sts p := by
  simp [wv, qF1, hs, h]
theorem qW1 {D : Nat → Nat} {s : St} (hs : sts[p]? = some s) (h : s.fin = 1000000001) : wv D sts (p + 1) = wv D sts p := by
  simp [wv, qF1, hs, h]
theorem qF2 {D : Nat → Nat} {s : St} (hs : sts[p]? = some s) (h : ¬ D p + s.fin.toNat < wv D sts p) : wv D sts (p + 1) = wv D sts p := by
  simp [wv, qF1, hs, h]
theorem j68 {D : Nat → Nat} {s : St} (hs : sts[p]? = some s) (h0 : D p ≠ big) (h1 : s.fin ≠ 1000000001) (h : D p + s.fin.toNat < wv D sts p) : wv D sts (p + 1) = D p + s.fin.toNat := by
  simp [wv, qF1, hs, h, h0, h1]
def ul (x : Nat) : Int := if x = big then 1000000001 else if x = 1000000001 then 1000000002 else (x : Int)
def qh8 (x : Nat) : Int := if x = big then 1000000001 else if 1000000000 < x then 0 else (x : Int)
def shA (D : Nat → Nat) (sts : List St) (p : Nat) : List Ar := if D p = big then [] else ((stA sts p).filter fun a => !emp a).map fun a => ⟨a.i, a.o, (D p : Int) + a.w, a.t⟩
def yY (D : Nat → Nat) (sts : List St) : Nat → List Ar
  | 0 => []
  | p + 1 => yY D sts p ++ shA D sts p
theorem jH2 (D : Nat → Nat) (sts : List St) (p : Nat) : (shA D sts p).length ≤ (stA sts p).length := by grind [shA, List.length_map, List.length_filter_le]
theorem qW2 (sts : List St) : ∀ k, k ≤ sts.length → ((List.range k).map fun p => (stA sts p).length).sum = xp (sts.take k)
  | 0, _ => by simp [xp]
  | k + 1, h => by
    have hx : sts[k]? = some sts[k] := List.getElem?_eq_getElem zg; rw [List.range_succ, map_append, List.sum_append, qW2 sts k zg, x5 hx, q81]; simp [wo hx]
theorem qW3 (D : Nat → Nat) (sts : List St) : ∀ k, (yY D sts k).length ≤ ((List.range k).map fun p => (stA sts p).length).sum
  | 0 => by simp [yY]
  | k + 1 => by
    have h1 := qW3 D sts k; have h2 := jH2 D sts k; rw [List.range_succ, map_append, List.sum_append]; simp [yY]; omega
theorem jl2 (sts : List St) (k : Nat) : xp (sts.take k) ≤ xp sts := by
  conv => rhs; rw [← List.take_append_drop k sts]
  unfold xp; rw [map_append, List.sum_append]; exact Nat.le_add_right _ _
theorem qh9 {D : Nat → Nat} (hk : k ≤ sts.length) (h : xp sts ≤ 400) : (yY D sts k).length ≤ 400 := by
  have h1 := qW3 D sts k; rw [qW2 sts k hk] at h1; have := jl2 sts k; omega
abbrev K3 : Type := Int × Int × Int
def ky (a : Ar) : K3 := (a.i, a.o, a.t)
def q10 (M : List (K3 × Int)) (a : Ar) : Bool := match zK M (ky a) with | some w => decide (a.w < w) | none => true
def qF3 (M : List (K3 × Int)) (a : Ar) : List (K3 × Int) := if q10 M a = true then vB M (ky a) a.w else M
def gO (l : List Ar) : List (K3 × Int) := l.foldl qF3 []
theorem qK3 (l : List Ar) (a : Ar) : gO (l ++ [a]) = qF3 (gO l) a := by simp [gO]
def toA (x : K3 × Int) : Ar := ⟨x.1.1, x.1.2.1, x.2, x.1.2.2⟩
theorem qn5 {K : Type} [DecidableEq K] {l : List (K × Int)} (a : K) (v : Int) (h : (l.map (·.1)).Nodup) : ((vB l a v).map (·.1)).Nodup := by
  unfold vB
  cases hf : xQ l a 0 with
  | none =>
    have hn : zK l a = none := by simp [zK, hf]
    have hn := qm4.1 hn; simp only [map_append, map_cons, map_nil]; rw [List.nodup_append]
    exact ⟨h, by simp, fun x hx y hy => by
      simp at hy; subst hy; obtain ⟨z, hz, rfl⟩ := List.mem_map.1 hx
      exact hn z hz⟩
  | some y =>
    obtain ⟨i, u⟩ := y; have hi := ub hf
    have : (l.set i (a, v)).map (·.1) = l.map (·.1) := by
      refine ext_getElem? fun j => ?_; rw [List.getElem?_map, List.getElem?_map, List.getElem?_set]
      split
      · grind
      rfl
    show ((l.set i (a, v)).map (·.1)).Nodup
    rw [this]; exact h
theorem qi0 {K : Type} [DecidableEq K] {k : K} {w : Int} : ∀ {l : List (K × Int)}, (l.map (·.1)).Nodup → (zK l k = some w ↔ (k, w) ∈ l)
  | [], _ => by simp [zK, xQ]
  | (a, u) :: l, h => by
    have h2 := List.nodup_cons.1 (show (a :: l.map (·.1)).Nodup from h)
    have ih := qi0 (k := k) (w := w) h2.2; rw [yF]
    by_cases e : k = a
    · grind
    rw [if_neg e, ih]; simp [e]
theorem qK4 : ∀ (n : Nat) (l : List Ar), l.length = n → ((gO l).map (·.1)).Nodup ∧ ∀ k, (∀ w, zK (gO l) k = some w → (∃ a ∈ l, ky a = k ∧ a.w = w) ∧ ∀ a ∈ l, ky a = k → w ≤ a.w) ∧ (zK (gO l) k = none → ∀ a ∈ l, ky a ≠ k)
  | 0, l, h => by grind [List.eq_nil_of_length_eq_zero, gO, zK, xQ]
  | n + 1, l, h => by
    obtain ⟨l', a, rfl⟩ : ∃ l' a, l = l' ++ [a] := ⟨l.dropLast, l.getLast (by rintro rfl; simp at h), (List.dropLast_concat_getLast _).symm⟩; obtain ⟨ih1, ih2⟩ := qK4 n l' (by simpa using h); rw [qK3]; unfold qF3; generalize gO l' = M at ih1 ih2 ⊢
    by_cases hl : q10 M a = true
    · rw [if_pos hl]
      refine ⟨qn5 _ _ ih1, fun k => ?_⟩; rw [gU]
      by_cases e : k = ky a
      · subst e
        rw [if_pos rfl]
        refine ⟨fun w hw => ?_, fun h => by cases h⟩
        simp only [Option.some.injEq] at hw; subst hw; refine ⟨⟨a, by simp, rfl, rfl⟩, fun b hb hk => ?_⟩
        rcases List.mem_append.1 hb with hb | hb
        · grind [q10, zK, ky]
        grind
      grind
    grind [mem_singleton, q10]
theorem qi1 : ∀ (l : List Ar) (p a : Ar), Sd ahd (p :: l) → (a ∈ lst.lstA p l ↔ a ∈ l ∧ ky a ≠ ky p ∧ ∀ b ∈ l, ky b = ky a → a.w ≤ b.w)
  | [], p, a, _ => by simp [lst.lstA]
  | x :: l, p, a, h => by
    have h1 := List.pairwise_cons.1 h; have h2 := List.pairwise_cons.1 h1.2; have ih := qi1 l x a h1.2; have hpx : ahd x p = false := h1.1 x zx
    have hxl : ∀ b ∈ l, ky b = ky x → x.w ≤ b.w := fun b hb hk => by
      have := h2.1 b hb; rw [Bool.eq_false_iff, ne_eq, u7] at this; simp only [ky, Prod.mk.injEq] at hk; omega
    simp only [lst.lstA]
    by_cases hc : x.i = p.i ∧ x.o = p.o ∧ x.t = p.t
    · grind [ky]
    rw [if_neg hc]
    have hk : ky x ≠ ky p := fun e => hc (by simp only [ky, Prod.mk.injEq] at e; exact e)
    have hlp : ∀ b ∈ l, ky b ≠ ky p := fun b hb e => by
      have b1 := h2.1 b hb; have b2 := h1.1 b (by simp [hb]); rw [Bool.eq_false_iff, ne_eq, u7] at b1 b2 hpx; simp only [ky, Prod.mk.injEq] at e hk; omega
    rw [mem_cons, ih]
    constructor
    · grind
    rintro ⟨a1, a2, a3⟩
    rcases List.mem_cons.1 a1 with rfl | a1
    · exact .inl rfl
    by_cases hax : ky a = ky x
    · left
      have b1 := a3 x zx hax.symm; have b2 := hxl a a1 hax; obtain ⟨ai, ao, aw, at'⟩ := a; obtain ⟨xi, xo, xw, xt⟩ := x; simp only [ky, Prod.mk.injEq] at hax b1 b2; simp only [Ar.mk.injEq]; omega
    grind
theorem jH3 {l : List Ar} (h : Sd ahd l) (a : Ar) : a ∈ lst l ↔ a ∈ l ∧ ∀ b ∈ l, ky b = ky a → a.w ≤ b.w := by
  cases l with
  | nil => simp [lst]
  | cons p l =>
    have h1 := List.pairwise_cons.1 h
    have wl : ∀ b ∈ l, ky b = ky p → p.w ≤ b.w := fun b hb hk => by
      have := h1.1 b hb; rw [Bool.eq_false_iff, ne_eq, u7] at this; simp only [ky, Prod.mk.injEq] at hk; omega
    simp only [lst, mem_cons, qi1 l p a h]
    constructor
    · grind
    rintro ⟨a1, a3⟩
    rcases a1 with rfl | a1
    · exact .inl rfl
    by_cases hax : ky a = ky p
    · left
      have b1 := a3 p (.inl rfl) hax.symm; have b2 := wl a a1 hax; obtain ⟨ai, ao, aw, at'⟩ := a; obtain ⟨xi, xo, xw, xt⟩ := p; simp only [ky, Prod.mk.injEq] at hax b1 b2; simp only [Ar.mk.injEq]; omega
    exact .inr ⟨a1, hax, fun b hb => a3 b (.inr hb)⟩
theorem qu3 : ∀ (l : List Ar) (p : Ar), (lst.lstA p l).Sublist l
  | [], p => by simp [lst.lstA]
  | x :: l, p => by
    simp only [lst.lstA]
    split
    · exact (qu3 l x).cons _
    exact (qu3 l x).cons_cons _
theorem jH4 (l : List Ar) : (lst l).Sublist l := by
  cases l with
  | nil => simp [lst]
  | cons a l => exact (qu3 l a).cons_cons _
theorem j69 (l : List Ar) (a : Ar) : a ∈ inL l ↔ a ∈ l ∧ ∀ b ∈ l, ky b = ky a → a.w ≤ b.w := by grind [inL, jH3, qd4, gM]
theorem qK5 : ∀ (l : List Ar) (p : Ar), Sd ahd (p :: l) → ((lst.lstA p l).map ky).Nodup
  | [], p, _ => by simp [lst.lstA]
  | x :: l, p, h => by
    have h1 := List.pairwise_cons.1 h; have ih := qK5 l x h1.2; simp only [lst.lstA]
    split
    · exact ih
    grind [List.nodup_cons, qi1]
theorem jw3 (l : List Ar) : ((inL l).map ky).Nodup := by
  unfold inL; have h := qd4 l; generalize inO l = S at h
  cases S with
  | nil => simp [lst]
  | cons p S =>
    simp only [lst, map_cons, List.nodup_cons]; refine ⟨fun hm => ?_, qK5 S p h⟩; obtain ⟨b, hb, hk⟩ := List.mem_map.1 hm; exact ((qi1 S p b h).1 hb).2.1 hk
theorem qn6 {α β : Type} (f : α → β) {l : List α} (h : (l.map f).Nodup) : l.Nodup := by
  induction l with
  | nil => simp
  | cons x l ih =>
    rw [map_cons, List.nodup_cons] at h; rw [List.nodup_cons]
    exact ⟨fun hx => h.1 (List.mem_map_of_mem hx), ih h.2⟩
theorem qM9 {α β : Type} (f : α → β) (hf : ∀ a b, f a = f b → a = b) {l : List α} (h : l.Nodup) : (l.map f).Nodup := by grind
theorem jl3 (l : List Ar) : ((gO l).map toA).Perm (inL l) := by
  obtain ⟨h1, h2⟩ := qK4 _ l rfl; have hti : ∀ x y : K3 × Int, toA x = toA y → x = y := by grind [toA]
  refine (List.perm_ext_iff_of_nodup (qM9 toA hti (qn6 _ h1)) (qn6 ky (jw3 l))).2 fun a => ?_; rw [j69]
  have hm : a ∈ (gO l).map toA ↔ zK (gO l) (ky a) = some a.w := by
    rw [qi0 h1, mem_map]
    constructor
    · rintro ⟨x, hx, rfl⟩; exact hx
    intro h; exact ⟨_, h, rfl⟩
  rw [hm]
  constructor
  · intro h
    obtain ⟨⟨b, b1, b2, b3⟩, b4⟩ := (h2 (ky a)).1 _ h
    have hba : b = a := by
      obtain ⟨ai, ao, aw, at'⟩ := a; obtain ⟨xi, xo, xw, xt⟩ := b; simp only [ky, Prod.mk.injEq] at b2 b3; simp only [Ar.mk.injEq]; omega
    subst hba; exact ⟨b1, b4⟩
  rintro ⟨h3, h4⟩
  cases hg : zK (gO l) (ky a) with
  | none => exact absurd rfl ((h2 (ky a)).2 hg a h3)
  | some w =>
    obtain ⟨⟨b, b1, b2, b3⟩, b4⟩ := (h2 (ky a)).1 _ hg; have c1 := b4 a h3 rfl; have c2 := h4 b b1 b2
    rw [show w = a.w by omega]
theorem j27 {A l : List Ar} (h : A.Perm (inL l)) : inO A = inL l := by
  have hs : Sd ahd (inL l) := (qd4 l).sublist (jH4 _); exact qE5 qE4 (qd4 A) hs ((gM A).trans h)
theorem qF4 (l : List Ar) : (inL l).length ≤ l.length := by
  have := j61 (inO l); rw [gg] at this; exact this
noncomputable def emA (sts : List St) (q : Nat) : List Ar := inL (yY (hop sts q) sts sts.length)
noncomputable def emF (sts : List St) (q : Nat) : Nat := wv (hop sts q) sts sts.length
noncomputable def emL (sts : List St) : List St := bl (fun q => ⟨qh8 (emF sts q), emA sts q⟩) sts.length
noncomputable def emO (sts : List St) (q : Nat) : Bool := decide (emF sts q ≠ big ∧ 1000000000 < emF sts q) || (emA sts q).any fun a => decide (1000000000 < a.w)
noncomputable def emV (sts : List St) (k : Nat) : Bool := (List.range k).any (emO sts)
noncomputable def emE (m : zr) : Int := if zn m ≠ 0 then zn m else if emV m.states m.states.length = true then 4 else if 400 < xp (emL m.states) then 5 else 0
noncomputable def emR (m : zr) : zr := if emE m = 0 then ⟨m.start, emL m.states⟩ else ⟨0, []⟩
theorem qW4 (sts : List St) (k : Nat) : emV sts (k + 1) = (emV sts k || emO sts k) := by simp [emV, List.range_succ]
def j28 : Go.Shelf.Ren := ⟨fun | 6 => 37 | 15 => 76 | 14 => 75 | 28 => 115 | 29 => 116 | 20 => 107 | 21 => 108 | 22 => 109 | 23 => 110 | 24 => 111 | 25 => 112 | 26 => 113 | 27 => 114 | 46 => 123 | 47 => 124 | 48 => 125 | 49 => 126 | 50 => 127 | 57 => 142 | n => n, fun | 22 => 33 | 24 => 47 | 25 => 60 | 3 => 3 | 39 => 77 | 0 => 0 | 53 => 122 | 55 => 125 | 4 => 4 | 46 => 159 | 45 => 158 | 50 => 135 | 5 => 5 | 9 => 9 | 66 => 171 | 70 => 175 | 76 => 189 | 77 => 190 | n => n, fun | n => n⟩
theorem j70 : Go.Proofs.SlLaysF0.n6 prog j28 := by
  constructor
  case f6 => exact ⟨f37.name, by decide, func37.trans (congrArg some zh)⟩
  case f14 => exact ⟨f75.name, by decide, func75.trans (congrArg some zh)⟩
  case f20 => exact ⟨f107.name, by decide, func107.trans (congrArg some zh)⟩
  case f21 => exact ⟨f108.name, by decide, func108.trans (congrArg some zh)⟩
  case f22 => exact ⟨f109.name, by decide, func109.trans (congrArg some zh)⟩
  case f23 => exact ⟨f110.name, by decide, func110.trans (congrArg some zh)⟩
  case f24 => exact ⟨f111.name, by decide, func111.trans (congrArg some zh)⟩
  case f25 => exact ⟨f112.name, by decide, func112.trans (congrArg some zh)⟩
  case f26 => exact ⟨f113.name, by decide, func113.trans (congrArg some zh)⟩
  case f27 => exact ⟨f114.name, by decide, func114.trans (congrArg some zh)⟩
  case f46 => exact ⟨f123.name, by decide, func123.trans (congrArg some zh)⟩
  case f49 => exact ⟨f126.name, by decide, func126.trans (congrArg some zh)⟩
  case f50 => exact ⟨f127.name, by decide, func127.trans (congrArg some zh)⟩
  case f57 => exact ⟨f142.name, by decide, func142.trans (congrArg some zh)⟩
  all_goals first | kernel_rfl | (intros; rfl)
theorem jS7 (hT : Tot lt) (h2 : ∀ a b x, lt a b = true → lt b x = true → lt a x = true) : SWO lt := ⟨hT.irr, fun a b x => h2 a b x, fun a b x => hT.tr a b x⟩
theorem ltR : ltOf cfR = ahd := by funext a b; exact jR1 a b
theorem jH5 (hT : Tot lt) {l r : List Ar} (hs : Sd lt r) (hp : r.Perm l) : l.mergeSort (fun x y => !lt y x) = r := by
  refine qE5 hT ?_ hs ((List.mergeSort_perm _ _).trans hp.symm)
  have h := List.pairwise_mergeSort (le := fun x y => !lt y x) (fun a b x h1 h2 => by
    simp only [Bool.not_eq_true'] at h1 h2 ⊢
    exact hT.tr _ _ _ h2 h1) (fun a b => by
    cases h : lt b a with
    | false => simp
    | true => simp [hT.asy _ _ h]) l
  exact h.imp fun h => by simpa using h
theorem k72 : jS0 prog 37 cfR inO := by
  refine ⟨fun g cb blk cap d w eg qF0 hH qW5 xz => ?_, fun p cap fv w => ?_, gg⟩
  · have h := AnyQ.slices_SortFunc_total j70 4 isAgg47 sizeOf47 wH (fun _ => rfl) jR9 cfR (by rw [ltR]; exact jS7 qE4 fun _ _ _ => je1) g cb blk 0 cap d w eg qF0 hH qW5 xz (by rw [ltR]; exact fun _ _ => qJ4)
    refine Calls.mono h ?_; rintro e w' ⟨rfl, n, os, rfl⟩; refine ⟨rfl, n, os, ?_⟩; rw [ltR, jH5 qE4 (qd4 _) (gM _)]
  exact AnyF.slices_SortFunc_none j70 p cap fv w
section
variable {P : Program} {ops : Array Oper} {Q : Exit → Act → World → Prop} {md : Region.Mode} {S : World → Prop} {z : Nat}
def NxT (P : Program) (md : Region.Mode) (l : List Oper) (Q : Exit → Act → World → Prop) (S : World → Prop) (z : Nat) (n : Nat) (listed : Array Bool) (a : Act) (w : World) (i : Nat) (oi : Oper) : Prop :=
  ∀ K : Act → World → Prop, Hid (∀ a' w', (i ≠ z → S w') → wU P md l.toArray Q S z n (listed.setIfInBounds i true) a' w' → K a' w') →
      if Region.wanted oi (yielded l.toArray a.tmps) = true then Oper.wp P oi a w K Q else K (a.put oi.dst undef) w
theorem qW6 {P : Program} {Q : Exit → Act → World → Prop} (S : World → Prop) (z : Nat) {id : Nat} {l : List Oper} {a : Act} (n : Nat) (hn : l.length = n) (hm : P.follows .mixedOrders = true) (hS : S w.drew)
    (h : ∀ wd, wd = w.drew → S wd → wU P .any l.toArray Q S z n (Array.replicate n false) a wd) : (Code.region id l.toArray true).wp P Q a w :=
  ja3 S z n hn hm hS (h _ rfl)
theorem q02 (i j : Nat) {l : List Oper} {n : Nat} {a : Act} {w : World} (hr : Region.ready md l.toArray listed = [i, j]) (hi : l[i]? = some oi) (hj : l[j]? = some oj)
    (h1 : NxT P md l Q S z n listed a w i oi) (h2 : NxT P md l Q S z n listed a w j oj) : wU P md l.toArray Q S z (n + 1) listed a w := by
  refine ⟨fun h0 => by rw [hr] at h0; exact absurd h0 zx, fun k hk => ?_⟩; rw [hr] at hk; simp only [mem_cons, not_mem_nil, or_false] at hk
  rcases hk with rfl | rfl
  · exact wpOp_step (by simpa using hi) fun K hK => h1 K fun a' w' hS hA => hK a' w' ⟨hS, hA⟩
  exact wpOp_step (by simpa using hj) fun K hK => h2 K fun a' w' hS hA => hK a' w' ⟨hS, hA⟩
theorem j71 (i j k : Nat) {l : List Oper} {n : Nat} {a : Act} {w : World} (hr : Region.ready md l.toArray listed = [i, j, k]) (hi : l[i]? = some oi) (hj : l[j]? = some oj) (hk : l[k]? = some ok)
    (h1 : NxT P md l Q S z n listed a w i oi) (h2 : NxT P md l Q S z n listed a w j oj) (h3 : NxT P md l Q S z n listed a w k ok) : wU P md l.toArray Q S z (n + 1) listed a w := by
  refine ⟨fun h0 => by rw [hr] at h0; exact absurd h0 zx, fun x hx => ?_⟩; rw [hr] at hx; simp only [mem_cons, not_mem_nil, or_false] at hx
  rcases hx with rfl | rfl | rfl
  · exact wpOp_step (by simpa using hi) fun K hK => h1 K fun a' w' hS hA => hK a' w' ⟨hS, hA⟩
  · exact wpOp_step (by simpa using hj) fun K hK => h2 K fun a' w' hS hA => hK a' w' ⟨hS, hA⟩
  exact wpOp_step (by simpa using hk) fun K hK => h3 K fun a' w' hS hA => hK a' w' ⟨hS, hA⟩
end
theorem c9 {b1 b2 b3 b4 b5 b6 b7 b8 b9 o1 o2 o3 o4 o5 o6 o7 o8 o9 : Nat} {v1 v2 v3 v4 v5 v6 v7 v8 v9 : Value} (h : w.cell? ⟨b1, o1, none⟩ = some v1 ∧ w.cell? ⟨b2, o2, none⟩ = some v2 ∧ w.cell? ⟨b3, o3, none⟩ = some v3 ∧ w.cell? ⟨b4, o4, none⟩ = some v4 ∧ w.cell? ⟨b5, o5, none⟩ = some v5 ∧ w.cell? ⟨b6, o6, none⟩ = some v6 ∧ w.cell? ⟨b7, o7, none⟩ = some v7 ∧ w.cell? ⟨b8, o8, none⟩ = some v8 ∧ w.cell? ⟨b9, o9, none⟩ = some v9) (x : Obj) : (w.alloc x).cell? ⟨b1, o1, none⟩ = some v1 ∧ (w.alloc x).cell? ⟨b2, o2, none⟩ = some v2 ∧ (w.alloc x).cell? ⟨b3, o3, none⟩ = some v3 ∧ (w.alloc x).cell? ⟨b4, o4, none⟩ = some v4 ∧ (w.alloc x).cell? ⟨b5, o5, none⟩ = some v5 ∧ (w.alloc x).cell? ⟨b6, o6, none⟩ = some v6 ∧ (w.alloc x).cell? ⟨b7, o7, none⟩ = some v7 ∧ (w.alloc x).cell? ⟨b8, o8, none⟩ = some v8 ∧ (w.alloc x).cell? ⟨b9, o9, none⟩ = some v9 :=
  ⟨yZ h.1 x, yZ h.2.1 x, yZ h.2.2.1 x, yZ h.2.2.2.1 x, yZ h.2.2.2.2.1 x, yZ h.2.2.2.2.2.1 x, yZ h.2.2.2.2.2.2.1 x, yZ h.2.2.2.2.2.2.2.1 x, yZ h.2.2.2.2.2.2.2.2 x⟩
theorem vD {b : Nat} {l : List Int} (h : qh6 w b l) (o : Obj) : qh6 (w.alloc o) b l := fun k x hx => yZ (h k x hx) o
theorem vc (w : World) (b : Nat) (k : Int × Int × Int × Int) (t : TypeId) (f : Nat × Nat) (hb : b = w.heap.size) : qh6 (w.alloc (.cells #[.int .i64 k.1, .int .i64 k.2.1, .int .i64 k.2.2.1, .int .i64 k.2.2.2] t f)) b (qh5 k) := by
  subst hb; intro j x hx
  have hb : (w.alloc (.cells #[.int .i64 k.1, .int .i64 k.2.1, .int .i64 k.2.2.1, .int .i64 k.2.2.2] t f)).heap[w.heap.size]? = some (.cells #[.int .i64 k.1, .int .i64 k.2.1, .int .i64 k.2.2.1, .int .i64 k.2.2.2] t f) := by
    show (w.heap.push _)[w.heap.size]? = _
    simp
  unfold qh5 at hx; simp only [World.cell?, hb, Option.isSome_none, false_eq_true, if_false]
  match j, hx with
  | 0, hx => simp at hx; subst hx; rfl
  | 1, hx => simp at hx; subst hx; rfl
  | 2, hx => simp at hx; subst hx; rfl
  | 3, hx => simp at hx; subst hx; rfl
  | j + 4, hx => simp at hx
theorem jH6 (w : World) (A B os : Array Obj) (q n : Nat) : ∃ q' os', (grow ((grow (grow w A) B).drewN q) os).drewN n = grow (w.drewN q') os' :=
  ⟨q + n, A ++ B ++ os, by unfold grow World.drewN; simp [Nat.add_assoc, Array.append_assoc]⟩
def ByQ (kf : FuncId) (bk b3 b4 : Nat) (va vb : Value) (ka kb : Int × Int × Int × Int) (w : World) : Exit → Act → World → Prop
  | .normal, a', w' => ∃ b6 b7, a' = { tmps := #[va, vb, .pointer (some ⟨bk, 0, none⟩), .pointer (some ⟨b3, 0, none⟩), .pointer (some ⟨b4, 0, none⟩), .int .i64 0, .pointer (some ⟨b6, 0, none⟩), .pointer (some ⟨b7, 0, none⟩), .func (.func kf) #[] #[], va, je4 ka, .func (.func kf) #[] #[], vb, je4 kb, undef, undef, undef], defers := [] } ∧ qh6 w' b6 (qh5 ka) ∧ qh6 w' b7 (qh5 kb) ∧ ∃ q os', w' = grow (w.drewN q) os'
  | _, _, _ => False
theorem jY6 {key : Ar → Int × Int × Int × Int} (hk : jC6 prog kf key) (ek : ∀ args w, (callFunc kf args).run prog w = .ok (.enter kf args) w) (bk : Nat) (a b : Ar) (w : World) (hc : w.cell? ⟨bk, 0, none⟩ = some (.func (.func kf) #[] #[])) :
    Calls prog 77 #[je3 a, je3 b, .pointer (some ⟨bk, 0, none⟩)] w fun e w' => e = .returned (.int .i64 (lx4 (key a) (key b))) ∧ ∃ q os', w' = grow (w.drewN q) os' := by
  have hb0 := blt hc
  have hka := fun W => hk a W
  have hkb := fun W => hk b W
  clear hk; obtain ⟨ka, jw4⟩ : ∃ k, key a = k := ⟨_, rfl⟩; obtain ⟨kb, jw5⟩ : ∃ k, key b = k := ⟨_, rfl⟩; rw [jw4, jw5]; rw [jw4] at hka; rw [jw5] at hkb; clear jw4 jw5; obtain ⟨ai, ao, aw, at'⟩ := a; obtain ⟨bi, bo, bw, bt⟩ := b; obtain ⟨k1, k2, k3, k4⟩ := ka; obtain ⟨l1, l2, l3, l4⟩ := kb; simp only [je3, je4] at hka hkb ⊢
  go_enter func77, ntmps77
  go_wp2_with fail
  refine wp_mono (Q := ByQ kf bk w.heap.size (w.heap.size + 1) (.agg #[.int .i64 ai, .int .i64 ao, .int .i64 aw, .int .i64 at']) (.agg #[.int .i64 bi, .int .i64 bo, .int .i64 bw, .int .i64 bt]) (k1, k2, k3, k4) (l1, l2, l3, l4) ((w.alloc (.cells #[.int .i64 ai, .int .i64 ao, .int .i64 aw, .int .i64 at'] 47 (0, 0))).alloc (.cells #[.int .i64 bi, .int .i64 bo, .int .i64 bw, .int .i64 bt] 47 (0, 0)))) ?_ ?_
  · have hA := vD (vc w _ (ai, ao, aw, at') 47 (0, 0) rfl) (.cells #[.int .i64 bi, .int .i64 bo, .int .i64 bw, .int .i64 bt] 47 (0, 0))
    have hB := vc (w.alloc (.cells #[.int .i64 ai, .int .i64 ao, .int .i64 aw, .int .i64 at'] 47 (0, 0))) (w.heap.size + 1) (bi, bo, bw, bt) 47 (0, 0) zx
    refine qW6 (fun w' => w'.cell? ⟨bk, 0, none⟩ = some (.func (.func kf) #[] #[]) ∧ w'.cell? ⟨w.heap.size, 0, none⟩ = some (.int .i64 ai) ∧ w'.cell? ⟨w.heap.size, 1, none⟩ = some (.int .i64 ao) ∧ w'.cell? ⟨w.heap.size, 2, none⟩ = some (.int .i64 aw) ∧ w'.cell? ⟨w.heap.size, 3, none⟩ = some (.int .i64 at') ∧ w'.cell? ⟨w.heap.size + 1, 0, none⟩ = some (.int .i64 bi) ∧ w'.cell? ⟨w.heap.size + 1, 1, none⟩ = some (.int .i64 bo) ∧ w'.cell? ⟨w.heap.size + 1, 2, none⟩ = some (.int .i64 bw) ∧ w'.cell? ⟨w.heap.size + 1, 3, none⟩ = some (.int .i64 bt)) 9 10 rfl zh
      ⟨yZ (yZ hc _) _, hA 0 _ rfl, hA 1 _ rfl, hA 2 _ rfl, hA 3 _ rfl, hB 0 _ rfl, hB 1 _ rfl, hB 2 _ rfl, hB 3 _ rfl⟩ (fun wd hwd hS => ?_)
    clear hA hB
    (refine qe2 0 (v := ?_) zh rfl rfl zh zh zh (fun _ _ _ h => h) (Or.inl ⟨by rfl, ?_⟩) zm ?_; rotate_left; (focus (intro w' hS'; (try dsimp only at hS'); go_split_ands; go_simp; try with_reducible rfl)); try simp only [Act.put, List.setIfInBounds_toArray, set_cons_zero, set_cons_succ])
    (refine qe2 1 (v := ?_) zh rfl rfl zh zh zh (fun _ _ _ h => h) (Or.inl ⟨by rfl, ?_⟩) zm ?_; rotate_left; (focus (intro w' hS'; (try dsimp only at hS'); go_split_ands; go_simp; try with_reducible rfl)); try simp only [Act.put, List.setIfInBounds_toArray, set_cons_zero, set_cons_succ])
    (refine qe2 3 (v := ?_) zh rfl rfl zh zh zh (fun _ _ _ h => h) (Or.inl ⟨by rfl, ?_⟩) zm ?_; rotate_left; (focus (intro w' hS'; (try dsimp only at hS'); go_split_ands; go_simp; try with_reducible rfl)); try simp only [Act.put, List.setIfInBounds_toArray, set_cons_zero, set_cons_succ])
    (refine qe2 4 (v := ?_) zh rfl rfl zh zh zh (fun _ _ _ h => h) (Or.inl ⟨by rfl, ?_⟩) zm ?_; rotate_left; (focus (intro w' hS'; (try dsimp only at hS'); go_split_ands; go_simp; try with_reducible rfl)); try simp only [Act.put, List.setIfInBounds_toArray, set_cons_zero, set_cons_succ])
    have HW := hS; have HWD := Lib.hid hwd; clear hwd; refine j71 2 6 7 zh rfl rfl rfl (fun K hK => ?_) (fun K hK => ?_) (fun K hK => ?_)
    · rw [if_pos (by rfl)]
      go_wp2_with (go_at_fn kf; refine (hka _).mono ?_; rintro e w1 ⟨rfl, o1, o2, rfl⟩)
      refine zH hK (fun _ => c9 (c9 hS _) _) (fun hx => ?_); have xh := hx zj; clear hx hK K hS; have hS := xh; clear xh; refine j71 5 6 7 zh rfl rfl rfl (fun K hK => ?_) (fun K hK => ?_) (fun K hK => ?_)
      · rw [if_pos (by rfl)]
        go_wp2_with (go_at_fn kf; refine (hkb _).mono ?_; rintro e w1 ⟨rfl, o1, o2, rfl⟩)
        refine zH hK (fun _ => c9 (c9 hS _) _) (fun hx => ?_); have xh := hx zj; clear hx hK K hS; have hS := xh; clear xh; refine q02 6 7 zh rfl rfl (fun K hK => ?_) (fun K hK => ?_)
        · rw [if_pos (by rfl)]
          go_simp
          refine zH hK (fun _ => c9 hS _) (fun hx => ?_); have xh := hx zj; clear hx hK K hS; have hS := xh; clear xh; refine xy 7 zh rfl (fun K hK => ?_); rw [if_pos (by rfl)]
          go_simp
          refine zH hK (fun _ => c9 hS _) (fun hx => ?_); have xh := hx zj; clear hx hK K hS; have hS := xh; clear xh; refine xy 8 zh rfl (fun K hK => ?_); rw [if_pos (by rfl)]
          go_simp
          refine zH hK (fun _ => by repeat (first | exact HW | refine c9 ?_ _)) (fun hx => ?_); clear hx hK K hS; refine xy 9 zh rfl (fun K hK => ?_); rw [if_pos (by rfl)]
          go_simp
          refine zH hK (fun h => absurd rfl h) (fun hx => ?_); clear hx hK K; refine ym zh ?_; exact ⟨_, _, rfl, (by repeat (first | exact vc _ _ (k1, k2, k3, k4) _ _ zx | refine vD ?_ _)), (by repeat (first | exact vc _ _ (l1, l2, l3, l4) _ _ zx | refine vD ?_ _)), 1, _, (by rw [HWD.out]; (repeat rw [alloc_eq_grow]); (repeat rw [grow_grow]); rfl)⟩
        rw [if_pos (by rfl)]
        go_simp
        refine zH hK (fun _ => c9 hS _) (fun hx => ?_); have xh := hx zj; clear hx hK K hS; have hS := xh; clear xh; refine xy 6 zh rfl (fun K hK => ?_); rw [if_pos (by rfl)]
        go_simp
        refine zH hK (fun _ => c9 hS _) (fun hx => ?_); have xh := hx zj; clear hx hK K hS; have hS := xh; clear xh; refine xy 8 zh rfl (fun K hK => ?_); rw [if_pos (by rfl)]
        go_simp
        refine zH hK (fun _ => by repeat (first | exact HW | refine c9 ?_ _)) (fun hx => ?_); clear hx hK K hS; refine xy 9 zh rfl (fun K hK => ?_); rw [if_pos (by rfl)]
        go_simp
        refine zH hK (fun h => absurd rfl h) (fun hx => ?_); clear hx hK K; refine ym zh ?_; exact ⟨_, _, rfl, (by repeat (first | exact vc _ _ (k1, k2, k3, k4) _ _ zx | refine vD ?_ _)), (by repeat (first | exact vc _ _ (l1, l2, l3, l4) _ _ zx | refine vD ?_ _)), 1, _, (by rw [HWD.out]; (repeat rw [alloc_eq_grow]); (repeat rw [grow_grow]); rfl)⟩
      · rw [if_pos (by rfl)]
        go_simp
        refine zH hK (fun _ => c9 hS _) (fun hx => ?_); have xh := hx zj; clear hx hK K hS; have hS := xh; clear xh; refine q02 5 7 zh rfl rfl (fun K hK => ?_) (fun K hK => ?_)
        · rw [if_pos (by rfl)]
          go_wp2_with (go_at_fn kf; refine (hkb _).mono ?_; rintro e w1 ⟨rfl, o1, o2, rfl⟩)
          refine zH hK (fun _ => c9 (c9 hS _) _) (fun hx => ?_); have xh := hx zj; clear hx hK K hS; have hS := xh; clear xh; refine xy 7 zh rfl (fun K hK => ?_); rw [if_pos (by rfl)]
          go_simp
          refine zH hK (fun _ => c9 hS _) (fun hx => ?_); have xh := hx zj; clear hx hK K hS; have hS := xh; clear xh; refine xy 8 zh rfl (fun K hK => ?_); rw [if_pos (by rfl)]
          go_simp
          refine zH hK (fun _ => by repeat (first | exact HW | refine c9 ?_ _)) (fun hx => ?_); clear hx hK K hS; refine xy 9 zh rfl (fun K hK => ?_); rw [if_pos (by rfl)]
          go_simp
          refine zH hK (fun h => absurd rfl h) (fun hx => ?_); clear hx hK K; refine ym zh ?_; exact ⟨_, _, rfl, (by repeat (first | exact vc _ _ (k1, k2, k3, k4) _ _ zx | refine vD ?_ _)), (by repeat (first | exact vc _ _ (l1, l2, l3, l4) _ _ zx | refine vD ?_ _)), 1, _, (by rw [HWD.out]; (repeat rw [alloc_eq_grow]); (repeat rw [grow_grow]); rfl)⟩
        rw [if_pos (by rfl)]
        go_simp
        refine zH hK (fun _ => c9 hS _) (fun hx => ?_); have xh := hx zj; clear hx hK K hS; have hS := xh; clear xh; refine xy 5 zh rfl (fun K hK => ?_); rw [if_pos (by rfl)]
        go_wp2_with (go_at_fn kf; refine (hkb _).mono ?_; rintro e w1 ⟨rfl, o1, o2, rfl⟩)
        refine zH hK (fun _ => c9 (c9 hS _) _) (fun hx => ?_); have xh := hx zj; clear hx hK K hS; have hS := xh; clear xh; refine xy 8 zh rfl (fun K hK => ?_); rw [if_pos (by rfl)]
        go_simp
        refine zH hK (fun _ => by repeat (first | exact HW | refine c9 ?_ _)) (fun hx => ?_); clear hx hK K hS; refine xy 9 zh rfl (fun K hK => ?_); rw [if_pos (by rfl)]
        go_simp
        refine zH hK (fun h => absurd rfl h) (fun hx => ?_); clear hx hK K; refine ym zh ?_; exact ⟨_, _, rfl, (by repeat (first | exact vc _ _ (k1, k2, k3, k4) _ _ zx | refine vD ?_ _)), (by repeat (first | exact vc _ _ (l1, l2, l3, l4) _ _ zx | refine vD ?_ _)), 1, _, (by rw [HWD.out]; (repeat rw [alloc_eq_grow]); (repeat rw [grow_grow]); rfl)⟩
      rw [if_pos (by rfl)]
      go_simp
      refine zH hK (fun _ => c9 hS _) (fun hx => ?_); have xh := hx zj; clear hx hK K hS; have hS := xh; clear xh; refine q02 5 6 zh rfl rfl (fun K hK => ?_) (fun K hK => ?_)
      · rw [if_pos (by rfl)]
        go_wp2_with (go_at_fn kf; refine (hkb _).mono ?_; rintro e w1 ⟨rfl, o1, o2, rfl⟩)
        refine zH hK (fun _ => c9 (c9 hS _) _) (fun hx => ?_); have xh := hx zj; clear hx hK K hS; have hS := xh; clear xh; refine xy 6 zh rfl (fun K hK => ?_); rw [if_pos (by rfl)]
        go_simp
        refine zH hK (fun _ => c9 hS _) (fun hx => ?_); have xh := hx zj; clear hx hK K hS; have hS := xh; clear xh; refine xy 8 zh rfl (fun K hK => ?_); rw [if_pos (by rfl)]
        go_simp
        refine zH hK (fun _ => by repeat (first | exact HW | refine c9 ?_ _)) (fun hx => ?_); clear hx hK K hS; refine xy 9 zh rfl (fun K hK => ?_); rw [if_pos (by rfl)]
        go_simp
        refine zH hK (fun h => absurd rfl h) (fun hx => ?_); clear hx hK K; refine ym zh ?_; exact ⟨_, _, rfl, (by repeat (first | exact vc _ _ (k1, k2, k3, k4) _ _ zx | refine vD ?_ _)), (by repeat (first | exact vc _ _ (l1, l2, l3, l4) _ _ zx | refine vD ?_ _)), 1, _, (by rw [HWD.out]; (repeat rw [alloc_eq_grow]); (repeat rw [grow_grow]); rfl)⟩
      rw [if_pos (by rfl)]
      go_simp
      refine zH hK (fun _ => c9 hS _) (fun hx => ?_); have xh := hx zj; clear hx hK K hS; have hS := xh; clear xh; refine xy 5 zh rfl (fun K hK => ?_); rw [if_pos (by rfl)]
      go_wp2_with (go_at_fn kf; refine (hkb _).mono ?_; rintro e w1 ⟨rfl, o1, o2, rfl⟩)
      refine zH hK (fun _ => c9 (c9 hS _) _) (fun hx => ?_); have xh := hx zj; clear hx hK K hS; have hS := xh; clear xh; refine xy 8 zh rfl (fun K hK => ?_); rw [if_pos (by rfl)]
      go_simp
      refine zH hK (fun _ => by repeat (first | exact HW | refine c9 ?_ _)) (fun hx => ?_); clear hx hK K hS; refine xy 9 zh rfl (fun K hK => ?_); rw [if_pos (by rfl)]
      go_simp
      refine zH hK (fun h => absurd rfl h) (fun hx => ?_); clear hx hK K; refine ym zh ?_; exact ⟨_, _, rfl, (by repeat (first | exact vc _ _ (k1, k2, k3, k4) _ _ zx | refine vD ?_ _)), (by repeat (first | exact vc _ _ (l1, l2, l3, l4) _ _ zx | refine vD ?_ _)), 1, _, (by rw [HWD.out]; (repeat rw [alloc_eq_grow]); (repeat rw [grow_grow]); rfl)⟩
    · rw [if_pos (by rfl)]
      go_simp
      refine zH hK (fun _ => c9 hS _) (fun hx => ?_); have xh := hx zj; clear hx hK K hS; have hS := xh; clear xh; refine q02 2 7 zh rfl rfl (fun K hK => ?_) (fun K hK => ?_)
      · rw [if_pos (by rfl)]
        go_wp2_with (go_at_fn kf; refine (hka _).mono ?_; rintro e w1 ⟨rfl, o1, o2, rfl⟩)
        refine zH hK (fun _ => c9 (c9 hS _) _) (fun hx => ?_); have xh := hx zj; clear hx hK K hS; have hS := xh; clear xh; refine q02 5 7 zh rfl rfl (fun K hK => ?_) (fun K hK => ?_)
        · rw [if_pos (by rfl)]
          go_wp2_with (go_at_fn kf; refine (hkb _).mono ?_; rintro e w1 ⟨rfl, o1, o2, rfl⟩)
          refine zH hK (fun _ => c9 (c9 hS _) _) (fun hx => ?_); have xh := hx zj; clear hx hK K hS; have hS := xh; clear xh; refine xy 7 zh rfl (fun K hK => ?_); rw [if_pos (by rfl)]
          go_simp
          refine zH hK (fun _ => c9 hS _) (fun hx => ?_); have xh := hx zj; clear hx hK K hS; have hS := xh; clear xh; refine xy 8 zh rfl (fun K hK => ?_); rw [if_pos (by rfl)]
          go_simp
          refine zH hK (fun _ => by repeat (first | exact HW | refine c9 ?_ _)) (fun hx => ?_); clear hx hK K hS; refine xy 9 zh rfl (fun K hK => ?_); rw [if_pos (by rfl)]
          go_simp
          refine zH hK (fun h => absurd rfl h) (fun hx => ?_); clear hx hK K; refine ym zh ?_; exact ⟨_, _, rfl, (by repeat (first | exact vc _ _ (k1, k2, k3, k4) _ _ zx | refine vD ?_ _)), (by repeat (first | exact vc _ _ (l1, l2, l3, l4) _ _ zx | refine vD ?_ _)), 1, _, (by rw [HWD.out]; (repeat rw [alloc_eq_grow]); (repeat rw [grow_grow]); rfl)⟩
        rw [if_pos (by rfl)]
        go_simp
        refine zH hK (fun _ => c9 hS _) (fun hx => ?_); have xh := hx zj; clear hx hK K hS; have hS := xh; clear xh; refine xy 5 zh rfl (fun K hK => ?_); rw [if_pos (by rfl)]
        go_wp2_with (go_at_fn kf; refine (hkb _).mono ?_; rintro e w1 ⟨rfl, o1, o2, rfl⟩)
        refine zH hK (fun _ => c9 (c9 hS _) _) (fun hx => ?_); have xh := hx zj; clear hx hK K hS; have hS := xh; clear xh; refine xy 8 zh rfl (fun K hK => ?_); rw [if_pos (by rfl)]
        go_simp
        refine zH hK (fun _ => by repeat (first | exact HW | refine c9 ?_ _)) (fun hx => ?_); clear hx hK K hS; refine xy 9 zh rfl (fun K hK => ?_); rw [if_pos (by rfl)]
        go_simp
        refine zH hK (fun h => absurd rfl h) (fun hx => ?_); clear hx hK K; refine ym zh ?_; exact ⟨_, _, rfl, (by repeat (first | exact vc _ _ (k1, k2, k3, k4) _ _ zx | refine vD ?_ _)), (by repeat (first | exact vc _ _ (l1, l2, l3, l4) _ _ zx | refine vD ?_ _)), 1, _, (by rw [HWD.out]; (repeat rw [alloc_eq_grow]); (repeat rw [grow_grow]); rfl)⟩
      rw [if_pos (by rfl)]
      go_simp
      refine zH hK (fun _ => c9 hS _) (fun hx => ?_); have xh := hx zj; clear hx hK K hS; have hS := xh; clear xh; refine xy 2 zh rfl (fun K hK => ?_); rw [if_pos (by rfl)]
      go_wp2_with (go_at_fn kf; refine (hka _).mono ?_; rintro e w1 ⟨rfl, o1, o2, rfl⟩)
      refine zH hK (fun _ => c9 (c9 hS _) _) (fun hx => ?_); have xh := hx zj; clear hx hK K hS; have hS := xh; clear xh; refine xy 5 zh rfl (fun K hK => ?_); rw [if_pos (by rfl)]
      go_wp2_with (go_at_fn kf; refine (hkb _).mono ?_; rintro e w1 ⟨rfl, o1, o2, rfl⟩)
      refine zH hK (fun _ => c9 (c9 hS _) _) (fun hx => ?_); have xh := hx zj; clear hx hK K hS; have hS := xh; clear xh; refine xy 8 zh rfl (fun K hK => ?_); rw [if_pos (by rfl)]
      go_simp
      refine zH hK (fun _ => by repeat (first | exact HW | refine c9 ?_ _)) (fun hx => ?_); clear hx hK K hS; refine xy 9 zh rfl (fun K hK => ?_); rw [if_pos (by rfl)]
      go_simp
      refine zH hK (fun h => absurd rfl h) (fun hx => ?_); clear hx hK K; refine ym zh ?_; exact ⟨_, _, rfl, (by repeat (first | exact vc _ _ (k1, k2, k3, k4) _ _ zx | refine vD ?_ _)), (by repeat (first | exact vc _ _ (l1, l2, l3, l4) _ _ zx | refine vD ?_ _)), 1, _, (by rw [HWD.out]; (repeat rw [alloc_eq_grow]); (repeat rw [grow_grow]); rfl)⟩
    rw [if_pos (by rfl)]
    go_simp
    refine zH hK (fun _ => c9 hS _) (fun hx => ?_); have xh := hx zj; clear hx hK K hS; have hS := xh; clear xh; refine q02 2 6 zh rfl rfl (fun K hK => ?_) (fun K hK => ?_)
    · rw [if_pos (by rfl)]
      go_wp2_with (go_at_fn kf; refine (hka _).mono ?_; rintro e w1 ⟨rfl, o1, o2, rfl⟩)
      refine zH hK (fun _ => c9 (c9 hS _) _) (fun hx => ?_); have xh := hx zj; clear hx hK K hS; have hS := xh; clear xh; refine q02 5 6 zh rfl rfl (fun K hK => ?_) (fun K hK => ?_)
      · rw [if_pos (by rfl)]
        go_wp2_with (go_at_fn kf; refine (hkb _).mono ?_; rintro e w1 ⟨rfl, o1, o2, rfl⟩)
        refine zH hK (fun _ => c9 (c9 hS _) _) (fun hx => ?_); have xh := hx zj; clear hx hK K hS; have hS := xh; clear xh; refine xy 6 zh rfl (fun K hK => ?_); rw [if_pos (by rfl)]
        go_simp
        refine zH hK (fun _ => c9 hS _) (fun hx => ?_); have xh := hx zj; clear hx hK K hS; have hS := xh; clear xh; refine xy 8 zh rfl (fun K hK => ?_); rw [if_pos (by rfl)]
        go_simp
        refine zH hK (fun _ => by repeat (first | exact HW | refine c9 ?_ _)) (fun hx => ?_); clear hx hK K hS; refine xy 9 zh rfl (fun K hK => ?_); rw [if_pos (by rfl)]
        go_simp
        refine zH hK (fun h => absurd rfl h) (fun hx => ?_); clear hx hK K; refine ym zh ?_; exact ⟨_, _, rfl, (by repeat (first | exact vc _ _ (k1, k2, k3, k4) _ _ zx | refine vD ?_ _)), (by repeat (first | exact vc _ _ (l1, l2, l3, l4) _ _ zx | refine vD ?_ _)), 1, _, (by rw [HWD.out]; (repeat rw [alloc_eq_grow]); (repeat rw [grow_grow]); rfl)⟩
      rw [if_pos (by rfl)]
      go_simp
      refine zH hK (fun _ => c9 hS _) (fun hx => ?_); have xh := hx zj; clear hx hK K hS; have hS := xh; clear xh; refine xy 5 zh rfl (fun K hK => ?_); rw [if_pos (by rfl)]
      go_wp2_with (go_at_fn kf; refine (hkb _).mono ?_; rintro e w1 ⟨rfl, o1, o2, rfl⟩)
      refine zH hK (fun _ => c9 (c9 hS _) _) (fun hx => ?_); have xh := hx zj; clear hx hK K hS; have hS := xh; clear xh; refine xy 8 zh rfl (fun K hK => ?_); rw [if_pos (by rfl)]
      go_simp
      refine zH hK (fun _ => by repeat (first | exact HW | refine c9 ?_ _)) (fun hx => ?_); clear hx hK K hS; refine xy 9 zh rfl (fun K hK => ?_); rw [if_pos (by rfl)]
      go_simp
      refine zH hK (fun h => absurd rfl h) (fun hx => ?_); clear hx hK K; refine ym zh ?_; exact ⟨_, _, rfl, (by repeat (first | exact vc _ _ (k1, k2, k3, k4) _ _ zx | refine vD ?_ _)), (by repeat (first | exact vc _ _ (l1, l2, l3, l4) _ _ zx | refine vD ?_ _)), 1, _, (by rw [HWD.out]; (repeat rw [alloc_eq_grow]); (repeat rw [grow_grow]); rfl)⟩
    rw [if_pos (by rfl)]
    go_simp
    refine zH hK (fun _ => c9 hS _) (fun hx => ?_); have xh := hx zj; clear hx hK K hS; have hS := xh; clear xh; refine xy 2 zh rfl (fun K hK => ?_); rw [if_pos (by rfl)]
    go_wp2_with (go_at_fn kf; refine (hka _).mono ?_; rintro e w1 ⟨rfl, o1, o2, rfl⟩)
    refine zH hK (fun _ => c9 (c9 hS _) _) (fun hx => ?_); have xh := hx zj; clear hx hK K hS; have hS := xh; clear xh; refine xy 5 zh rfl (fun K hK => ?_); rw [if_pos (by rfl)]
    go_wp2_with (go_at_fn kf; refine (hkb _).mono ?_; rintro e w1 ⟨rfl, o1, o2, rfl⟩)
    refine zH hK (fun _ => c9 (c9 hS _) _) (fun hx => ?_); have xh := hx zj; clear hx hK K hS; have hS := xh; clear xh; refine xy 8 zh rfl (fun K hK => ?_); rw [if_pos (by rfl)]
    go_simp
    refine zH hK (fun _ => by repeat (first | exact HW | refine c9 ?_ _)) (fun hx => ?_); clear hx hK K hS; refine xy 9 zh rfl (fun K hK => ?_); rw [if_pos (by rfl)]
    go_simp
    refine zH hK (fun h => absurd rfl h) (fun hx => ?_); clear hx hK K; refine ym zh ?_; exact ⟨_, _, rfl, (by repeat (first | exact vc _ _ (k1, k2, k3, k4) _ _ zx | refine vD ?_ _)), (by repeat (first | exact vc _ _ (l1, l2, l3, l4) _ _ zx | refine vD ?_ _)), 1, _, (by rw [HWD.out]; (repeat rw [alloc_eq_grow]); (repeat rw [grow_grow]); rfl)⟩
  intro e a' w' hq
  cases e with
  | normal =>
    obtain ⟨b6, b7, rfl, h6, h7, q, os', hw⟩ := hq; have HW := Lib.hid hw; clear hw hka hkb ek hc hb0
    have vN := fun W => jG5 4 b6 b7 (qh5 (k1, k2, k3, k4)) (qh5 (l1, l2, l3, l4)) W rfl rfl zg
    rw [jv2] at vN; have H6 := Lib.hid h6; have H7 := Lib.hid h7; clear h6 h7; simp only [Exit.then]
    go_wp2_with fail
    go_quiet ((go_at_call 78; exact Calls.quiet_of_same (vN _ H6.out H7.out)))
    go_wp2_with fail
    go_ret
    refine ⟨rfl, ?_⟩; rw [HW.out]; simp only [alloc_eq_grow]; exact jH6 _ _ _ _ _ _
  | _ => exact hq.elim
def qn7 : Go.Shelf.Ren := ⟨fun | 14 => 141 | 20 => 150 | 21 => 151 | 22 => 152 | 23 => 153 | 24 => 154 | 25 => 155 | 26 => 156 | 27 => 157 | 46 => 161 | 47 => 124 | 48 => 125 | 49 => 162 | 50 => 163 | 15 => 76 | 57 => 164 | 28 => 115 | 29 => 116 | n => n, fun | 24 => 137 | 22 => 138 | 3 => 3 | 25 => 170 | 4 => 4 | 0 => 0 | 46 => 159 | 45 => 158 | 50 => 135 | 66 => 171 | 39 => 77 | 55 => 125 | 70 => 175 | 76 => 189 | 77 => 190 | 53 => 122 | 5 => 5 | 9 => 9 | n => n, fun | n => n⟩
theorem jw6 : Go.Proofs.SlLaysF0.n14 prog qn7 := by
  constructor
  case f14 => exact ⟨f141.name, by decide, func141.trans (congrArg some zh)⟩
  case f20 => exact ⟨f150.name, by decide, func150.trans (congrArg some zh)⟩
  case f21 => exact ⟨f151.name, by decide, func151.trans (congrArg some zh)⟩
  case f22 => exact ⟨f152.name, by decide, func152.trans (congrArg some zh)⟩
  case f23 => exact ⟨f153.name, by decide, func153.trans (congrArg some zh)⟩
  case f24 => exact ⟨f154.name, by decide, func154.trans (congrArg some zh)⟩
  case f25 => exact ⟨f155.name, by decide, func155.trans (congrArg some zh)⟩
  case f26 => exact ⟨f156.name, by decide, func156.trans (congrArg some zh)⟩
  case f27 => exact ⟨f157.name, by decide, func157.trans (congrArg some zh)⟩
  case f46 => exact ⟨f161.name, by decide, func161.trans (congrArg some zh)⟩
  case f49 => exact ⟨f162.name, by decide, func162.trans (congrArg some zh)⟩
  case f50 => exact ⟨f163.name, by decide, func163.trans (congrArg some zh)⟩
  case f57 => exact ⟨f164.name, by decide, func164.trans (congrArg some zh)⟩
  all_goals first | kernel_rfl | (intros; rfl)
def bz : Go.Shelf.Ren := ⟨fun | 6 => 97 | 15 => 76 | 14 => 119 | 28 => 115 | 29 => 116 | 20 => 133 | 21 => 134 | 22 => 135 | 23 => 136 | 24 => 137 | 25 => 138 | 26 => 139 | 27 => 140 | 46 => 147 | 47 => 124 | 48 => 125 | 49 => 148 | 50 => 149 | 57 => 160 | n => n, fun | 22 => 145 | 24 => 147 | 25 => 149 | 3 => 3 | 39 => 77 | 0 => 0 | 53 => 122 | 55 => 125 | 4 => 4 | 46 => 159 | 45 => 158 | 50 => 135 | 5 => 5 | 9 => 9 | 66 => 171 | 70 => 175 | 76 => 189 | 77 => 190 | n => n, fun | n => n⟩
theorem qu4 : Go.Proofs.SlLaysF0.n6 prog bz := by
  constructor
  case f6 => exact ⟨f97.name, by decide, func97.trans (congrArg some zh)⟩
  case f14 => exact ⟨f119.name, by decide, func119.trans (congrArg some zh)⟩
  case f20 => exact ⟨f133.name, by decide, func133.trans (congrArg some zh)⟩
  case f21 => exact ⟨f134.name, by decide, func134.trans (congrArg some zh)⟩
  case f22 => exact ⟨f135.name, by decide, func135.trans (congrArg some zh)⟩
  case f23 => exact ⟨f136.name, by decide, func136.trans (congrArg some zh)⟩
  case f24 => exact ⟨f137.name, by decide, func137.trans (congrArg some zh)⟩
  case f25 => exact ⟨f138.name, by decide, func138.trans (congrArg some zh)⟩
  case f26 => exact ⟨f139.name, by decide, func139.trans (congrArg some zh)⟩
  case f27 => exact ⟨f140.name, by decide, func140.trans (congrArg some zh)⟩
  case f46 => exact ⟨f147.name, by decide, func147.trans (congrArg some zh)⟩
  case f49 => exact ⟨f148.name, by decide, func148.trans (congrArg some zh)⟩
  case f50 => exact ⟨f149.name, by decide, func149.trans (congrArg some zh)⟩
  case f57 => exact ⟨f160.name, by decide, func160.trans (congrArg some zh)⟩
  all_goals first | kernel_rfl | (intros; rfl)
section
variable {α : Type} (e : α → Int × Int)
def g8 (x : α) : List Value := [.int .i64 (e x).1, .int .i64 (e x).2]
abbrev eV2 (x : α) : List V := [.i (e x).1, .i (e x).2]
theorem qW7 [Inhabited α] (l : List α) (j : Nat) (h : j < l.length * 2) : (l.flatMap (eV2 e))[j]? = some (V.d (.p ((g8 e l.toArray[j / 2]!)[j % 2]!))) := by
  induction l generalizing j with
  | nil => simp at h
  | cons a l ih =>
    rw [flatMap_cons]
    match j, h with
    | 0, _ => rfl
    | 1, _ => rfl
    | j + 2, h =>
      simp only [length_cons] at h; have h2 := ih j zg
      rw [show (eV2 e a ++ l.flatMap (eV2 e))[j + 2]? = (l.flatMap (eV2 e))[j]? from rfl, h2]
      have e1 : (j + 2) / 2 = j / 2 + 1 := by omega
      have e2 : (j + 2) % 2 = j % 2 := by omega
      rw [e1, e2]; have h3 : j / 2 < l.length := by omega
      simp [h3]
theorem qi2 (l : List α) : (l.flatMap (eV2 e)).length = l.length * 2 := by
  induction l with
  | nil => rfl
  | cons a l ih => rw [flatMap_cons, length_append, ih]; simp; omega
@[simp] theorem k73 (r : Nat) (l : List α) : V.hasL r (l.flatMap (eV2 e)) = false := zE r l fun x => [D.p (.int .i64 (e x).1), D.p (.int .i64 (e x).2)]
structure jf0 [Inhabited α] (P : Program) (f gf : FuncId) (res : List α → List α) : Prop where
  run : ∀ (blk cap : Nat) (d : Array α) (w : World), HoldsK (g8 e) 2 w blk 0 d → blk < w.heap.size → d.size < 4611686018427387904 →
    Calls P f #[.slice (some ⟨blk, 0, none⟩) d.size cap, .func (.func gf) #[] #[]] w fun e' w' => e' = .returned (.tuple #[]) ∧ ∃ n os, w' = sortWorldK (g8 e) 2 w blk 0 n (res d.toList).toArray os
  len : ∀ l, (res l).length = l.length
end
section
variable {c : Cx} {s : S} {o : Oper} {α : Type} [Inhabited α] {e : α → Int × Int}
theorem qW8 {res : List α → List α} {fx : Operand} {xs : Array Operand} {tys : Array TypeId} {r n : Nat} {fl : Bool} {ty : TypeId} {l : List α} (hf : Is c.P f fn code nn rs) (hS : jf0 e c.P f gf res)
    (ho : o.op = .call { callee := .value fx, args := xs, argTypes := tys }) (wc : s.ev fx = some (.fn f [])) (xJ : xs.toList.map s.ev = [.own r 2 n fl, .fn gf []].map some) (hr : fnd s.H r = some ⟨ty, l.flatMap (eV2 e), fl, 2⟩) (hn : l.length = n) (hnb : n ≤ 1000000) (gA : 0 < n) (hd : dok s o = true) :
    vm c o s (fun s' => s' = ({ s with H := (r, ⟨ty, (res l).flatMap (eV2 e), fl, 2⟩) :: s.H } : S).put o.dst (.tup [])) := by
  intro g a w hs K Q hK; obtain ⟨cs, hfv, qW0, _⟩ := bI hs wc; obtain rfl : cs = [] := by cases cs with | nil => rfl | cons => simp at qW0
  obtain ⟨wm, hav⟩ := uv hs xJ
  obtain ⟨x, y, hxy⟩ : ∃ x y, xs.toList.map a.eval = [x, y] := by
    match h : xs.toList.map a.eval, wm with
    | [x, y], _ => exact ⟨x, y, rfl⟩
  rw [hxy] at hav; have hx := hav 0 _ x rfl rfl; have hy := hav 1 _ y rfl rfl
  have zv : (execOp a.eval o).run c.P w = .ok (.enter f #[x, y]) w := by
    rw [wj (caps := []) hf ho hfv, hxy]; rfl
  have qp8 : ∀ w', Sim c g { s with H := (r, ⟨ty, (res l).flatMap (eV2 e), fl, 2⟩) :: s.H } a w' → K (a.put o.dst (.tuple #[])) w' := fun w' h =>
    hK g _ _ w' rfl (h.put o.dst (zJ (s := { s with H := (r, ⟨ty, (res l).flatMap (eV2 e), fl, 2⟩) :: s.H }) hd) (.tup [] [] rfl (by intro j u z h1; simp at h1)))
  unfold Oper.wp; rw [zv]; simp only [Oper.upon]
  have xA : fl = false := by
    cases fl with
    | false => rfl
    | true =>
      have h1 := congrArg List.length (hs.nul r _ hr rfl); simp only [qi2, length_nil] at h1; omega
  subst xA
  obtain ⟨cap, hx1, vK⟩ : ∃ cap, x = .slice (some ⟨(g r).1, 0, none⟩) n cap ∧ n ≤ (g r).2 := by
    cases hx with
    | own _ _ _ hn' hc' => exact ⟨_, rfl, hn'⟩
  subst hx1
  obtain rfl : y = .func (.func gf) #[] #[] := by
    cases hy with
    | fn _ _ cs' qh7 h' =>
      match cs', qh7 with
      | [], _ => rfl
  obtain ⟨arr, ha, xz, hc⟩ := hs.obj r _ hr rfl; simp only at ha xz hc; have xz := xz zj; have zk : (g r).1 < w.heap.size := (Array.getElem?_eq_some_iff.1 ha).1
  have hH : Sort.HoldsK (g8 e) 2 w (g r).1 0 l.toArray := by
    intro j hj; rw [Sort.size_flatK] at hj; have hj' : j < l.length * 2 := by simpa using hj
    obtain ⟨z, h4, h5⟩ := hc j _ (qW7 e l j hj')
    have hz : z = (g8 e l.toArray[j / 2]!)[j % 2]! := by
      cases h5 with
      | d _ _ h6 => cases h6; rfl
    refine ⟨?_, ?_⟩
    · rw [Sort.get_flatK _ _ _ _ (by simpa using hj')]
      simp only [World.cell?, ha, Option.isSome_none, false_eq_true, if_false, zero_add, id]; rw [h4, hz]
    simp [World.frozen?, ha]
  have hn2 : n = l.toArray.size := by simp [hn]
  have key := hS.run (g r).1 cap l.toArray w hH zk (by simp; omega); rw [← hn2] at key; refine key.mono ?_; rintro e' w' ⟨rfl, m, os, rfl⟩; refine qp8 _ ?_; have hrl := hS.len l; refine Sim.move (w := Sort.putRowK (g8 e) 2 (Sort.ahead w m) (g r).1 0 (res l).toArray) ?_ ?_
  · refine Sim.setRow hs (row := ⟨ty, l.flatMap (eV2 e), false, 2⟩) (row' := ⟨ty, (res l).flatMap (eV2 e), false, 2⟩) (arr' := Sort.putCells id 0 (Sort.flatK (g8 e) 2 (res l).toArray) arr) hr rfl rfl rfl rfl ?_ ?_ ?_ rfl rfl rfl ?_ ?_
    · simp only [Sort.putRowK, Sort.putRow, Sort.mapBlock, Sort.ahead, Array.getElem?_modify, if_true, ha, map_some, Sort.onCells]
    · intro b hb
      simp only [Sort.putRowK, Sort.putRow, Sort.mapBlock, Sort.ahead, Array.getElem?_modify]
      rw [if_neg (fun e => hb e.symm)]
    · simp [Sort.putRowK, Sort.putRow, Sort.mapBlock, Sort.ahead]
    · intro arr0 ty0 h0
      rw [ha] at h0; simp only [Option.some.injEq, Obj.cells.injEq, and_true] at h0; obtain ⟨rfl, _⟩ := h0; simp [Sort.putCells]
    intro j v hv; simp only at hv
    have hj : j < (res l).length * 2 := by
      rw [← qi2 e]; exact (List.getElem?_eq_some_iff.1 hv).1
    rw [qW7 e _ _ hj] at hv; simp only [Option.some.injEq] at hv; subst hv; have hja : j < arr.size := by omega
    refine ⟨_, ?_, .d _ _ (.p _)⟩; simp only [Sort.putCells, Array.getElem?_mapIdx]; rw [Array.getElem?_eq_getElem hja, map_some, if_pos (by simp; omega), Nat.sub_zero, Sort.get_flatK _ _ _ _ (by simpa using hj)]; rfl
  exact ⟨rfl, rfl, rfl, by simp [Sort.grow, sortWorldK], fun k hk => by
    unfold sortWorldK Sort.grow; simp only
    rw [Array.getElem?_append_left hk]⟩
end
def eP (f : Nat → Int) (q : Nat) : Int × Int := ((q : Int), f q)
end Go.Proofs.YthiknkcigcglkaaGreatDoor
