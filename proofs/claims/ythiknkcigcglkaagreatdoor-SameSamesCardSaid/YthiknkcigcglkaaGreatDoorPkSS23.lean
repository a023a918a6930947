/- Part 23 of what the law SameSames rests on. -/
import Derived.Test.YthiknkcigcglkaaGreatDoorPkSS19
import Derived.Test.YthiknkcigcglkaaGreatDoorPkSS20
namespace Go.Proofs.YthiknkcigcglkaaGreatDoor
open Go.RowKit
open Go.Proofs.Tryz
open List (flatMap_cons length_append length_cons length_map mem_cons not_mem_nil)
open Nat (le_refl)
set_option linter.unusedSimpArgs false
set_option linter.unusedVariables false
set_option maxRecDepth 100000
set_option maxHeartbeats 8000000
open Go.Sort (HoldsK grow SWO)
variable {nn : Nat} {fn : Func} {code : Code} {rs : List ResultVar}
theorem qX4 (l : List Ar) (j : Nat) (h : j < l.length * 4) : (l.flatMap wH)[j]? = some ((wH l.toArray[j / 4]!)[j % 4]!) := by
 induction l generalizing j with
 | nil => simp at h
 | cons a l ih =>
  rw [flatMap_cons]
  match j, h with
  | 0, _ => rfl
  | 1, _ => rfl
  | 2, _ => rfl
  | 3, _ => rfl
  | j + 4, h =>
   simp only [length_cons] at h; have h2 := ih j zg
   rw [show (wH a ++ l.flatMap wH)[j + 4]? = (l.flatMap wH)[j]? from rfl, h2]
   have e1 : (j + 4) / 4 = j / 4 + 1 := by omega
   have e2 : (j + 4) % 4 = j % 4 := by omega
   rw [e1, e2]; have h3 : j / 4 < l.length := by omega
   simp [h3]
theorem qu9 (l : List Ar) : (l.flatMap wH).length = l.length * 4 := by
 induction l with
 | nil => rfl
 | cons a l ih => rw [flatMap_cons, length_append, ih]; simp [wH]; omega
theorem jI4 (a : Ar) (j : Nat) (h : j < 4) : (arD a)[j]? = some (.p ((wH a)[j]!)) := by
 match j, h with
 | 0, _ => rfl
 | 1, _ => rfl
 | 2, _ => rfl
 | 3, _ => rfl
theorem qd9 (r : Nat) (l : List Ar) : V.hasL r (l.flatMap uB) = false := zE r l arD
section
variable {c : Cx} {s : S} {o : Oper}
theorem qz7 {l : List Ar} {t e : TypeId} {x y : Operand} {r bt bt' n : Nat} {z : Value} {f : Bool} {row : Row} {l1 : List V} (hu : c.P.underlying t = some (.slice e)) (hi : Inf c.P e 4 bt z) (hzs : z.cells.size = 4)
  (ho : o.op = .call { callee := .builtin .append, args := #[x, y], argTypes := #[t, t] }) (hx : s.ev x = some (.own r 4 n f)) (hr : fnd s.H r = some row) (hf : row.nil = f) (hrz : row.sz = 4) (hty : row.ty = e)
  (hl : row.cells.take (n * 4) = l1) (hl1 : l1.length = n * 4) (hc1 : V.hasL r l1 = false) (hy : s.ev y = some (.d (.sl 4 bt' (l.map arD)))) (hm : 0 < l.length) (h63 : n + l.length ≤ 140737488355328) (hbt : (n + l.length) * bt ≤ 140737488355328) (hd : dok s o = true) :
  vm c o s (fun s' => s' = S.put ⟨s.n, (s.forget r).T, (r, ⟨e, l1 ++ l.flatMap uB, false, 4⟩) :: (s.forget r).H, (s.forget r).K⟩ o.dst (.own r 4 (n + l.length) false)) :=
 qM0 (news := l.flatMap uB) hu hi hzs zg ho hx hr hf hrz hty hl hl1 hc1 (qE9 l) (qd9 r l) hm h63 hbt hd (fun g a w hs => by
  have h := hs.ev hy; generalize a.eval y = u at h
  cases h with
  | d _ _ h =>
   cases h with
   | sl _ _ _ ad cap b o' F _ ha hl hc hr =>
    obtain ⟨rfl, hq, hb⟩ := ha (by intro e; simp at e; subst e; simp at hm)
    have key : ∀ j, j < l.length * 4 → F (j / 4) (j % 4) = (wH l.toArray[j / 4]!)[j % 4]! ∧ w.cell? ⟨b, o' + j / 4 * 4 + j % 4, none⟩ = some (F (j / 4) (j % 4)) := by
     intro j hj; have h4 : j / 4 < l.length := by omega
     have e1 : (l.map arD)[j / 4]? = some (arD l[j / 4]) := by simp [h4]
     have e2 := jI4 l[j / 4] (j % 4) zg; have h1 := hr _ _ _ _ e1 e2; have h2 := hc _ _ _ _ e1 e2; refine ⟨?_, h2⟩; generalize F (j / 4) (j % 4) = y at h1
     cases h1
     simp [h4]
    refine ⟨⟨b, o', none⟩, cap, l.flatMap wH, by simp, qu9 l, fun j u hu => ?_, fun u hu => ?_, fun j u x hu hx => ?_⟩
    ·have hj : j < l.length * 4 := by rw [← qu9]; exact (List.getElem?_eq_some_iff.1 hu).1
     rw [qX4 _ _ hj, ← (key j hj).1] at hu; rw [wN, ← hu, ← (key j hj).2]
     congr 2
     omega
    ·obtain ⟨a, _, ha⟩ := List.mem_flatMap.1 hu
     exact jR9 a u ha
    have hj : j < l.length * 4 := by rw [← qu9]; exact (List.getElem?_eq_some_iff.1 hx).1
    rw [qX4 _ _ hj] at hx; rw [qE8 _ _ hj] at hu; simp only [Option.some.injEq] at hu hx; subst hu hx
    exact .d _ _ (.p _))
end
theorem FnO.sl {P : Program} {f : FuncId} {args : List V} {post : V → List (Nat × Row) → Prop} (j : Nat) {sz bt : Nat} {rows : List (List D)} (hj : args[j]? = some (.d (.sl sz bt rows))) (h : rows.length * bt ≤ 140737488355328 → FnO P f args post) : FnO P f args post := by
 intro w out g xs ho hx; have zk : j < xs.length := by rw [← hx.1]; exact (List.getElem?_eq_some_iff.1 hj).1
 have hv := hx.2 j _ _ hj (List.getElem?_eq_getElem zk); generalize xs[j] = y at hv
 cases hv with
 | d _ _ h2 => exact h h2.bound w out g xs ho hx
def ClO (l : List Ar) (v : V) (H : List (Nat × Row)) : Prop := ∃ fl, (fl = true → l.length = 0) ∧ v = .own 900 4 l.length fl ∧ H = [(900, ⟨47, l.flatMap uB, fl, 4⟩)]
theorem jl8 (l : List Ar) : FnO prog 74 [.d (zU l)] (ClO l) := by
 refine FnO.sl 0 rfl fun hb => ?_; rw [length_map] at hb; refine FnO.intro (n := 8) ⟨func74, rfl, rfl, rfl, rfl⟩ zT8 zx fun w0 out => ?_; refine zY ?_; refine qh rfl (jt8 underlying33 rfl rfl rfl rfl) ?_; rintro _ ⟨b, rfl, qg1⟩ -; refine Dv ?_
 cases b with
 | true =>
  have h0 := qg1 rfl; have h1 : l = [] := by simpa using h0
  subst h1; refine zW ?_; refine qB 2 900 4 47 rfl rfl ?_; apply qM
  exact ⟨[_], [(900, ⟨47, [], true, 4⟩)], ⟨rfl, trivial⟩, ⟨rfl, trivial⟩, ⟨true, fun _ => rfl, rfl, rfl⟩, by simp [zZ, V.has], fun r row k h1 h2 => by
    simp only [fnd, beq_iff_eq] at h1
    split at h1
    ·cases h1; first | (rw [qd9] at h2; cases h2) | (simp [V.hasL] at h2)
    cases h1⟩
 | false =>
  by_cases h0 : l = []
  ·subst h0
   refine xd ?_; refine q9 rfl (qI6 900 underlying33 zO rfl rfl rfl) ?_; refine Dv ?_; refine qe rfl rfl (qc6 underlying33 zO rfl rfl rfl) ?_; refine xd ?_
   exact ⟨[_], [(900, ⟨47, [], false, 4⟩)], ⟨rfl, trivial⟩, ⟨rfl, trivial⟩, ⟨false, (fun h => by cases h), rfl, rfl⟩, by simp [zZ, V.has], fun r row k h1 h2 => by
    simp only [fnd, beq_iff_eq] at h1
    split at h1
    ·cases h1; first | (rw [qd9] at h2; cases h2) | (simp [V.hasL] at h2)
    cases h1⟩
  have zI : 0 < l.length := List.length_pos_iff.2 h0; refine xd ?_; refine q9 rfl (qI6 900 underlying33 zO rfl rfl rfl) ?_; refine Dv ?_; refine qf rfl (qz7 underlying33 zO rfl rfl rfl rfl rfl rfl rfl rfl rfl rfl rfl zm zg zg rfl) ?_; refine g0 ?_; refine xd ?_
  exact ⟨[_], [(900, ⟨47, l.flatMap uB, false, 4⟩)], ⟨rfl, trivial⟩, ⟨rfl, trivial⟩, ⟨false, (fun h => by cases h), rfl, rfl⟩, by simp [zZ, V.has], fun r row k h1 h2 => by
   simp only [fnd, beq_iff_eq] at h1
   split at h1
   ·cases h1; first | (rw [qd9] at h2; cases h2) | (simp [V.hasL] at h2)
   cases h1⟩
theorem jf3 (x y a b : Int) (w : World) : Calls prog 121 #[.agg #[.int .i64 x, .int .i64 a], .agg #[.int .i64 y, .int .i64 b]] w fun e w' => e = .returned (.int .i64 (c3 x y)) ∧ ∃ q os', w' = grow (w.drewN q) os' := by
  go_enter func121, ntmps121
  go_wp2_with (go_at_call 70; refine (jk5 _ _ _).mono ?_; rintro e w1 ⟨rfl, rfl⟩)
  go_ret
  refine ⟨rfl, ?_⟩; simp only [Sort.alloc_eq_grow, Sort.grow_grow]; exact ⟨0, _, rfl⟩
theorem jf4 : ltOf (fun x y : Nat => c3 (x : Int) (y : Int)) = fun x y => decide (x < y) := by
  funext x y
  unfold ltOf c3; rw [Bool.eq_iff_iff, decide_eq_true_iff, decide_eq_true_iff]; simp only
  split
  · omega
  split <;> omega
theorem jI5 : SWO (fun x y : Nat => decide (x < y)) := ⟨fun a => by simp, fun a b x h1 h2 => by simp at h1 h2 ⊢; omega, fun a b x h1 h2 => by simp at h1 h2 ⊢; omega⟩
theorem qK7 {α : Type} (e : α → Int × Int) (x : α) : (g8 e x).length = 2 := rfl
theorem qX5 {α : Type} (e : α → Int × Int) (x : α) : ∀ v ∈ g8 e x, v.oneCell' = true := by
  intro v hv; simp only [g8, mem_cons, not_mem_nil, or_false] at hv
  rcases hv with rfl | rfl <;> rfl
theorem jT0 (args : Array Value) (w : World) : (callFunc 121 args).run prog w = .ok (.enter 121 args) w := enters_of func121 zh rfl args w
theorem jT1 (args : Array Value) (w : World) : (callFunc 98 args).run prog w = .ok (.enter 98 args) w := enters_of func98 zh rfl args w
theorem j29 (f : Nat → Int) (blk cap : Nat) (d : Array Nat) (w : World) (hH : HoldsK (g8 (eP f)) 2 w blk 0 d) (qW5 : blk < w.heap.size) (xz : d.size < 4611686018427387904) : Calls prog 120 #[.slice (some ⟨blk, 0, none⟩) d.size cap, .func (.func 121) #[] #[]] w fun e w' => e = .returned (.tuple #[]) ∧ ∃ n os, w' = sortWorldK (g8 (eP f)) 2 w blk 0 n (leN d.toList).toArray os := by
  have hO : SWO (ltOf (fun x y : Nat => c3 (x : Int) (y : Int))) := by rw [jf4]; exact jI5
  have qF0 : CmpLays prog 121 #[] (g8 (eP f)) 2 (fun x y : Nat => c3 (x : Int) (y : Int)) blk 0 d.size w := fun m os dk hdk x y => jf3 (x : Int) (y : Int) (f x) (f y) _
  have k78 : Lib.bitLen d.size < 4611686018427387904 := Nat.lt_of_le_of_lt (Lib.bitLen_le d.size 62 zg zg) zg
  have hp := AnyQ.pdqsortCmpFunc_all (P := prog) (ρ := qn7) jw6 2 isAgg137 sizeOf137 (g8 (eP f)) (fun x y : Nat => c3 (x : Int) (y : Int)) 121 #[] hO blk 0 cap d w jT0 qF0 ⟨qK7 _, qX5 _, hH, qW5⟩ (d.size + 1) 0 d.size (Lib.bitLen d.size) d w zg rfl (SWK.start hH) (Nat.zero_le _) (le_refl _) xz k78 (Or.inl rfl)
  have hl : Calls prog 76 #[.int .u64 (d.size : Int)] w fun e w' => e = .returned (.int .i64 (Lib.bitLen d.size : Nat)) ∧ w' = w := by
    have h := Any.bits_Len (SlLaysF0.n15.bits (P := prog) (ρ := bz) { qu4 with }) (d.size : Int) w zg zg
    rwa [Int.toNat_natCast] at h
  have wr : IntKind.u64.wrap (d.size : Int) = d.size := by simp [IntKind.wrap, IntKind.bits, IntKind.signed]; omega
  have hs := Sort.pdq_sorts (ltOf (fun x y : Nat => c3 (x : Int) (y : Int))) hO d 0 d.size (Lib.bitLen d.size) true true (Nat.zero_le _) (le_refl _) (Or.inl rfl)
  have hu := Sort.sorted_unique_holds (lt := ltOf (fun x y : Nat => c3 (x : Int) (y : Int))) hO (fun x y h1 h2 => by rw [jf4] at h1 h2; simp at h1 h2; omega) d _ hs.1 hs.2
  rw [jf4] at hu hp
  have hu2 : Sort.pdq (fun x y : Nat => decide (x < y)) d 0 d.size (Lib.bitLen d.size) true true = (leN d.toList).toArray := by
    have h := congrArg List.toArray hu; rw [Array.toArray_toList] at h; exact h
  rw [hu2] at hp; clear hH qF0 hs hu hu2; generalize (leN d.toList).toArray = R at hp ⊢; have hp : Calls prog 141 _ w _ := hp
  go_enter func120, ntmps120
  go_wp2_with (first | (go_at_call 76; refine hl.mono ?_; rintro e w' ⟨rfl, rfl⟩) | (go_at_call 141; refine hp.mono ?_; rintro e w' ⟨rfl, n, os, rfl⟩))
  go_end0
  exact ⟨rfl, n, os, rfl⟩
theorem jI6 (f : Nat → Int) : jf0 (eP f) prog 120 121 leN := ⟨j29 f, fun l => List.length_mergeSort _⟩
def leL (l : List uC) : List uC := l.mergeSort fun x y => !ltOf cfL y x
theorem j30 (blk cap : Nat) (d : Array uC) (w : World) (hH : HoldsK (g8 eL) 2 w blk 0 d) (qW5 : blk < w.heap.size) (xz : d.size < 4611686018427387904) : Calls prog 97 #[.slice (some ⟨blk, 0, none⟩) d.size cap, .func (.func 98) #[] #[]] w fun e w' => e = .returned (.tuple #[]) ∧ ∃ n os, w' = sortWorldK (g8 eL) 2 w blk 0 n (leL d.toList).toArray os :=
  AnyQ.slices_SortFunc_total (P := prog) (ρ := bz) qu4 2 isAgg147 sizeOf147 (g8 eL) (qK7 _) (qX5 _) cfL jH7 98 #[] blk 0 cap d w jT1 (fun m os dk hdk x y => jf1 x y _) hH qW5 xz fun x y h1 h2 => jH8 h1 h2
theorem jI7 : jf0 eL prog 97 98 leL := ⟨j30, fun l => List.length_mergeSort _⟩
section
variable {c : Cx} {s : S} {o : Oper}
theorem qz8 {f gf : FuncId} {fx : Operand} {xs : Array Operand} {tys : Array TypeId} {r : Nat} {fl : Bool} (hf : Is c.P f fn code nn rs) (hS : ∀ (p : Option Addr) (cap : Nat) (w : World), Calls c.P f #[.slice p 0 cap, .func (.func gf) #[] #[]] w fun e w' => e = .returned (.tuple #[]) ∧ w' = w)
    (ho : o.op = .call { callee := .value fx, args := xs, argTypes := tys }) (wc : s.ev fx = some (.fn f [])) (xJ : xs.toList.map s.ev = [.own r 2 0 fl, .fn gf []].map some) (hd : dok s o = true) :
    vm c o s (fun s' => s' = s.put o.dst (.tup [])) := by
  intro g a w hs K Q hK; obtain ⟨cs, hfv, qW0, _⟩ := bI hs wc; obtain rfl : cs = [] := by cases cs with | nil => rfl | cons => simp at qW0
  obtain ⟨wm, hav⟩ := uv hs xJ
  obtain ⟨x, y, hxy⟩ : ∃ x y, xs.toList.map a.eval = [x, y] := by
    match h : xs.toList.map a.eval, wm with
    | [x, y], _ => exact ⟨x, y, rfl⟩
  rw [hxy] at hav; have hx := hav 0 _ x rfl rfl; have hy := hav 1 _ y rfl rfl
  have zv : (execOp a.eval o).run c.P w = .ok (.enter f #[x, y]) w := by
    rw [wj (caps := []) hf ho hfv, hxy]; rfl
  have qp8 : ∀ w', Sim c g s a w' → K (a.put o.dst (.tuple #[])) w' := fun w' h =>
    hK g _ _ w' rfl (h.put o.dst (zJ (s := s) hd) (.tup [] [] rfl (by intro j u z h1; simp at h1)))
  unfold Oper.wp; rw [zv]; simp only [Oper.upon]
  obtain ⟨p, cap, rfl⟩ : ∃ p cap, x = .slice p 0 cap := by
    cases hx with
    | own _ _ _ hn' hc' => exact ⟨_, _, rfl⟩
    | ownNil => exact ⟨_, _, rfl⟩
  obtain rfl : y = .func (.func gf) #[] #[] := by
    cases hy with
    | fn _ _ cs' qh7 h' =>
      match cs', qh7 with
      | [], _ => rfl
  refine (hS p cap w).mono ?_; rintro e' w' ⟨rfl, rfl⟩; exact qp8 _ hs
theorem jl9 {α : Type} [Inhabited α] {e : α → Int × Int} {f gf : FuncId} {res : List α → List α} {fx : Operand} {xs : Array Operand} {tys : Array TypeId} {r n : Nat} {fl : Bool} {ty : TypeId} {l : List α} (hf : Is c.P f fn code nn rs) (hS : jf0 e c.P f gf res) (hN : ∀ (p : Option Addr) (cap : Nat) (w : World), Calls c.P f #[.slice p 0 cap, .func (.func gf) #[] #[]] w fun e w' => e = .returned (.tuple #[]) ∧ w' = w)
    (ho : o.op = .call { callee := .value fx, args := xs, argTypes := tys }) (wc : s.ev fx = some (.fn f [])) (xJ : xs.toList.map s.ev = [.own r 2 n fl, .fn gf []].map some) (hr : fnd s.H r = some ⟨ty, l.flatMap (eV2 e), fl, 2⟩) (hn : l.length = n) (hnb : n ≤ 1000000) (hd : dok s o = true) :
    vm c o s (fun s' => s' = ({ s with H := (r, ⟨ty, (res l).flatMap (eV2 e), fl, 2⟩) :: s.H } : S).put o.dst (.tup [])) := by
  by_cases gA : 0 < n
  · exact qW8 hf hS ho wc xJ hr hn hnb gA hd
  obtain rfl : n = 0 := by omega
  have hl0 : l = [] := List.eq_nil_of_length_eq_zero hn; subst hl0; have hr0 : res [] = [] := List.eq_nil_of_length_eq_zero (hS.len []); rw [hr0]; have h0 := qz8 (r := r) hf hN ho wc xJ hd
  have jC1 : Less ({ s with H := (r, ⟨ty, ([] : List α).flatMap (eV2 e), fl, 2⟩) :: s.H } : S) s := ⟨rfl, fun i v h => ⟨v, h, .refl _⟩, fun k row h => by
    simp only [fnd] at h
    split at h
    · rename_i hk
      simp only [beq_iff_eq] at hk; subst hk; simp only [Option.some.injEq] at h; subst h
      exact ⟨_, hr, rfl, rfl, rfl, fun j v hv => ⟨v, hv, .refl _⟩⟩
    exact ⟨row, h, rfl, rfl, rfl, fun j v hv => ⟨v, hv, .refl _⟩⟩, fun j v h => ⟨v, h, .refl _⟩⟩
  intro g a w hs
  exact (qz8 (s := { s with H := (r, ⟨ty, ([] : List α).flatMap (eV2 e), fl, 2⟩) :: s.H }) (r := r) hf hN ho (by cases fx <;> exact wc) (by rw [← xJ]; exact List.map_congr_left fun x _ => by cases x <;> rfl) hd) g a w (hs.less jC1)
end
theorem qN0 (p : Option Addr) (cap : Nat) (w : World) : Calls prog 97 #[.slice p 0 cap, .func (.func 98) #[] #[]] w fun e w' => e = .returned (.tuple #[]) ∧ w' = w := AnyF.slices_SortFunc_none (P := prog) (ρ := bz) { qu4 with } p cap _ w
end Go.Proofs.YthiknkcigcglkaaGreatDoor
