/- arrange.Sorted and arrange.ByOut: each state's arcs cloned and sorted. -/
import Derived.Test.YtjbldphpkkmdpaaAmCheck
import Derived.Test.YtjbldphpkkmdpaaAmW
import Derived.Test.YtjbldphpkkmdpaaAmStrm
import Derived.Test.YtjbldphpkkmdpaaReach
import Derived.Test.YtjbldphpkkmdpaaAmSort
import Derived.Test.YtjbldphpkkmdpaaAmLay
import Derived.Test.YtjbldphpkkmdpaaAmBy
namespace Go.Proofs.Ytjbldphpkkmdpaa
open Go.RowKit
set_option linter.unusedSimpArgs false
set_option linter.unusedVariables false
set_option maxRecDepth 100000

theorem encv_get (l : List Ar) (j : Nat) (h : j < l.length * 4) : (l.flatMap encAr)[j]? = some ((encAr l.toArray[j / 4]!)[j % 4]!) := by
 induction l generalizing j with
 | nil => simp at h
 | cons a l ih =>
  rw [List.flatMap_cons]
  match j, h with
  | 0, _ => rfl
  | 1, _ => rfl
  | 2, _ => rfl
  | 3, _ => rfl
  | j + 4, h =>
   simp only [List.length_cons] at h
   have h2 := ih j (by omega)
   rw [show (encAr a ++ l.flatMap encAr)[j + 4]? = (l.flatMap encAr)[j]? from rfl, h2]
   have e1 : (j + 4) / 4 = j / 4 + 1 := by omega
   have e2 : (j + 4) % 4 = j % 4 := by omega
   rw [e1, e2]
   have h3 : j / 4 < l.length := by omega
   simp [h3]
theorem encv_len (l : List Ar) : (l.flatMap encAr).length = l.length * 4 := by
 induction l with
 | nil => rfl
 | cons a l ih => rw [List.flatMap_cons, List.length_append, ih]; simp [encAr]; omega
theorem arD_get (a : Ar) (j : Nat) (h : j < 4) : (arD a)[j]? = some (.p ((encAr a)[j]!)) := by
 match j, h with
 | 0, _ => rfl
 | 1, _ => rfl
 | 2, _ => rfl
 | 3, _ => rfl
theorem hasL_ar (r : Nat) (l : List Ar) : V.hasL r (l.flatMap arV4) = false := hasL_flat r l arD
section
variable {c : Cx} {s : S} {o : Oper}
/-- append of arcs that are plain data onto a slice of the call's own. -/
theorem st_appendA {l : List Ar} {t e : TypeId} {x y : Operand} {r bt bt' n : Nat} {z : Value} {f : Bool} {row : Row} {l1 : List V} (hu : c.P.underlying t = some (.slice e)) (hi : Inf c.P e 4 bt z) (hzs : z.cells.size = 4)
  (ho : o.op = .call { callee := .builtin .append, args := #[x, y], argTypes := #[t, t] }) (hx : s.ev x = some (.own r 4 n f)) (hr : fnd s.H r = some row) (hf : row.nil = f) (hrz : row.sz = 4) (hty : row.ty = e)
  (hl : row.cells.take (n * 4) = l1) (hl1 : l1.length = n * 4) (hc1 : V.hasL r l1 = false) (hy : s.ev y = some (.d (.sl 4 bt' (l.map arD)))) (hm : 0 < l.length) (h63 : n + l.length ≤ 140737488355328) (hbt : (n + l.length) * bt ≤ 140737488355328) (hd : dok s o = true) :
  Step c o s (fun s' => s' = S.put ⟨s.n, (s.forget r).T, (r, ⟨e, l1 ++ l.flatMap arV4, false, 4⟩) :: (s.forget r).H, (s.forget r).K⟩ o.dst (.own r 4 (n + l.length) false)) :=
 st_append_any (news := l.flatMap arV4) hu hi hzs (by omega) ho hx hr hf hrz hty hl hl1 hc1 (enc_len l) (hasL_ar r l) hm h63 hbt hd (fun g a w hs => by
  have h := hs.ev hy
  generalize a.eval y = u at h
  cases h with
  | d _ _ h =>
   cases h with
   | sl _ _ _ ad cap b o' F ha hl hc hr =>
    obtain ⟨rfl, hq, hb⟩ := ha (by intro e; simp at e; subst e; simp at hm)
    have key : ∀ j, j < l.length * 4 → F (j / 4) (j % 4) = (encAr l.toArray[j / 4]!)[j % 4]! ∧ w.cell? ⟨b, o' + j / 4 * 4 + j % 4, none⟩ = some (F (j / 4) (j % 4)) := by
     intro j hj
     have h4 : j / 4 < l.length := by omega
     have e1 : (l.map arD)[j / 4]? = some (arD l[j / 4]) := by simp [h4]
     have e2 := arD_get l[j / 4] (j % 4) (by omega)
     have h1 := hr _ _ _ _ e1 e2
     have h2 := hc _ _ _ _ e1 e2
     refine ⟨?_, h2⟩
     generalize F (j / 4) (j % 4) = y at h1
     cases h1
     simp [h4]
    refine ⟨⟨b, o', none⟩, cap, l.flatMap encAr, by simp, encv_len l, fun j u hu => ?_, fun u hu => ?_, fun j u x hu hx => ?_⟩
    ·have hj : j < l.length * 4 := by rw [← encv_len]; exact (List.getElem?_eq_some_iff.1 hu).1
     rw [encv_get _ _ hj, ← (key j hj).1] at hu
     rw [addr_add, ← hu, ← (key j hj).2]
     congr 2
     omega
    ·obtain ⟨a, _, ha⟩ := List.mem_flatMap.1 hu
     exact enc1 a u ha
    ·have hj : j < l.length * 4 := by rw [← encv_len]; exact (List.getElem?_eq_some_iff.1 hx).1
     rw [encv_get _ _ hj] at hx
     rw [enc_get _ _ hj] at hu
     simp only [Option.some.injEq] at hu hx
     subst hu hx
     exact .d _ _ (.p _))
end
theorem FnO.sl {P : Program} {f : FuncId} {args : List V} {post : V → List (Nat × Row) → Prop} (j : Nat) {sz bt : Nat} {rows : List (List D)} (hj : args[j]? = some (.d (.sl sz bt rows))) (h : rows.length * bt ≤ 140737488355328 → FnO P f args post) : FnO P f args post := by
 intro w out g xs ho hx
 have hlt : j < xs.length := by rw [← hx.1]; exact (List.getElem?_eq_some_iff.1 hj).1
 have hv := hx.2 j _ _ hj (List.getElem?_eq_getElem hlt)
 generalize xs[j] = y at hv
 cases hv with
 | d _ _ h2 => exact h h2.bound w out g xs ho hx
def ClO (l : List Ar) (v : V) (H : List (Nat × Row)) : Prop := ∃ fl, (fl = true → l.length = 0) ∧ v = .own 900 4 l.length fl ∧ H = [(900, ⟨56, l.flatMap arV4, fl, 4⟩)]
set_option maxHeartbeats 1000000 in
theorem am_CloneA (l : List Ar) : FnO Try.prog 74 [.d (arsD l)] (ClO l) := by
 refine FnO.sl 0 rfl fun hb => ?_
 rw [List.length_map] at hb
 refine FnO.intro (n := 8) ⟨Try.func74, rfl, rfl, rfl, rfl⟩ (by simp [V.pure, V.has, V.hasL]) (by simp) fun w0 out => ?_
 refine AW.seq ?_
 refine AW.region ?_
 refine AL.rp rfl rfl (rp_assign rfl rfl) ?_
 refine AL.nil ?_
 try simp only [thenS, S.put, enum, List.nil_append, List.cons_append, List.append_nil, Nat.zero_add, Nat.reduceAdd]
 refine AW.seq ?_
 refine AW.seq ?_
 refine AW.region ?_
 refine AL.rp rfl rfl (rp_move rfl rfl) ?_
 refine AL.call rfl (sm_eqnil Try.underlying50 rfl rfl rfl rfl) ?_
 rintro _ ⟨b, rfl, hnil⟩ -
 refine AL.nil ?_
 try simp only [thenS, S.put, S.newObj, setL, V.cs, List.length_cons, List.length_nil, List.take_succ_cons, List.take_zero, List.drop_succ_cons, List.drop_zero, List.drop_nil, List.nil_append, List.cons_append, List.append_nil, Nat.zero_add, Nat.reduceAdd, List.map_cons, List.map_nil, List.set_cons_zero, List.set_cons_succ]
 cases b with
 | true =>
  have h0 := hnil rfl
  have h1 : l = [] := by simpa using h0
  subst h1
  refine AW.condT rfl ?_
  refine AW.seq ?_
  refine AW.region ?_
  refine AL.rp rfl rfl (rp_assign rfl rfl) ?_
  refine AL.nil ?_
  try simp only [thenS, S.put]
  refine AW.adopt 2 900 4 56 rfl rfl ?_
  refine AW.ret ?_
  exact ⟨[_], [(900, ⟨56, [], true, 4⟩)], ⟨rfl, trivial⟩, ⟨rfl, trivial⟩, ⟨true, fun _ => rfl, rfl, rfl⟩, by simp [tupOf, V.has], fun r row k h1 h2 => by
    simp only [fnd, beq_iff_eq] at h1
    split at h1
    ·cases h1; first | (rw [hasL_ar] at h2; cases h2) | (simp [V.hasL] at h2)
    ·cases h1⟩
 | false =>
  by_cases h0 : l = []
  ·subst h0
   refine AW.condF rfl ?_
   refine AW.skip ?_
   try simp only [thenS]
   refine AW.seq ?_
   refine AW.region ?_
   refine AL.sm rfl (sm_slice0 900 Try.underlying50 inf56 rfl (by first | rfl | simp [S.clean, S.put, S.newObj, S.forget, V.has, V.hasL, junkIf, setL, V.cs, hasL_i, hasL_b, hasL_s, hasL_n, hasL_rep, hasL_flat, hasL_append, -List.map_set]) rfl) ?_
   refine AL.rp rfl rfl (rp_move rfl rfl) ?_
   (first | (refine AL.rp rfl rfl (rp_append_nil Try.underlying50 inf56 rfl rfl rfl) ?_) | (refine AL.rp rfl rfl (rp_append_none Try.underlying50 inf56 rfl rfl rfl) ?_))
   refine AL.rp rfl rfl (rp_assign rfl rfl) ?_
   refine AL.nil ?_
   try simp only [thenS, S.put, S.newObj, setL, V.cs, List.length_cons, List.length_nil, List.take_succ_cons, List.take_zero, List.drop_succ_cons, List.drop_zero, List.drop_nil, List.nil_append, List.cons_append, List.append_nil, Nat.zero_add, Nat.reduceAdd, List.map_cons, List.map_nil, List.set_cons_zero, List.set_cons_succ]
   refine AW.ret ?_
   exact ⟨[_], [(900, ⟨56, [], false, 4⟩)], ⟨rfl, trivial⟩, ⟨rfl, trivial⟩, ⟨false, (fun h => by cases h), rfl, rfl⟩, by simp [tupOf, V.has], fun r row k h1 h2 => by
    simp only [fnd, beq_iff_eq] at h1
    split at h1
    ·cases h1; first | (rw [hasL_ar] at h2; cases h2) | (simp [V.hasL] at h2)
    ·cases h1⟩
  ·have hlen : 0 < l.length := List.length_pos_iff.2 h0
   refine AW.condF rfl ?_
   refine AW.skip ?_
   try simp only [thenS]
   refine AW.seq ?_
   refine AW.region ?_
   refine AL.sm rfl (sm_slice0 900 Try.underlying50 inf56 rfl (by first | rfl | simp [S.clean, S.put, S.newObj, S.forget, V.has, V.hasL, junkIf, setL, V.cs, hasL_i, hasL_b, hasL_s, hasL_n, hasL_rep, hasL_flat, hasL_append, -List.map_set]) rfl) ?_
   refine AL.rp rfl rfl (rp_move rfl rfl) ?_
   refine AL.st rfl (st_appendA Try.underlying50 inf56 rfl rfl rfl rfl rfl rfl rfl rfl rfl (by first | rfl | simp [S.clean, S.put, S.newObj, S.forget, V.has, V.hasL, junkIf, setL, V.cs, hasL_i, hasL_b, hasL_s, hasL_n, hasL_rep, hasL_flat, hasL_append, -List.map_set]) rfl (by assumption) (by omega) (by omega) rfl) ?_
   simp only [S.forget, S.put, S.newObj, junkIf, V.has, V.hasL, hasL_i, hasL_b, hasL_s, hasL_d, hasL_n, hasL_rep, hasL_flat, hasL_append, List.map_cons, List.map_nil, List.filter_cons, List.filter_nil, Nat.reduceBNe, Nat.reduceBEq, eq_self, bne_self_eq_false,  Bool.not_true, Bool.not_false, Bool.or_false, Bool.or_true, Bool.false_or, Bool.true_or, if_true, if_false, Bool.false_eq_true, ite_true, ite_false, ↓reduceIte, beq_self_eq_true, Nat.reduceEqDiff]
   refine AL.rp rfl rfl (rp_assign rfl rfl) ?_
   refine AL.nil ?_
   try simp only [thenS, S.put, S.newObj, setL, V.cs, List.length_cons, List.length_nil, List.take_succ_cons, List.take_zero, List.drop_succ_cons, List.drop_zero, List.drop_nil, List.nil_append, List.cons_append, List.append_nil, Nat.zero_add, Nat.reduceAdd, List.map_cons, List.map_nil, List.set_cons_zero, List.set_cons_succ]
   refine AW.ret ?_
   exact ⟨[_], [(900, ⟨56, l.flatMap arV4, false, 4⟩)], ⟨rfl, trivial⟩, ⟨rfl, trivial⟩, ⟨false, (fun h => by cases h), rfl, rfl⟩, by simp [tupOf, V.has], fun r row k h1 h2 => by
    simp only [fnd, beq_iff_eq] at h1
    split at h1
    ·cases h1; first | (rw [hasL_ar] at h2; cases h2) | (simp [V.hasL] at h2)
    ·cases h1⟩
end Go.Proofs.Ytjbldphpkkmdpaa
