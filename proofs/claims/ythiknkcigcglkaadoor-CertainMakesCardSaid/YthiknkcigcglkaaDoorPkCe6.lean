/- Part 6 of what the law CertainMakes rests on. -/
import Derived.Test.YthiknkcigcglkaaDoorPkCe1
import Derived.Test.YthiknkcigcglkaaDoorPkCe2
import Derived.Test.YthiknkcigcglkaaDoorPkCe3
import Derived.Test.YthiknkcigcglkaaDoorPkCe4
import Derived.Test.YthiknkcigcglkaaDoorPkCe5
namespace Go.Proofs.YthiknkcigcglkaaDoor
open Go.RowKit
set_option linter.unusedSimpArgs false
set_option linter.unusedVariables false
set_option maxRecDepth 100000
set_option maxHeartbeats 8000000
section
variable {c : Cx} {s : S} {Q : Exit → S → Prop} {L : List Oper} {n : Nat} {l l' : Array Bool} {i j k : Nat} {o : Oper}
def AN (c : Cx) (ops : Array Oper) (Q : Exit → S → Prop) (n : Nat) (l : Array Bool) (s : S) : Prop := closedL .any ops l → ∀ g a w, Sim c g s a w → anyN c.P .any ops (QQ c Q) (fun _ => True) (fun _ => true) n l a w
theorem AN.rp {v : V} (hi : L[i]? = some o) (hg : o.guard = none) (hd : dok s o = true) (hp : noP Q) (hok : (Region.noSelect L.toArray && (Region.ready .any L.toArray l).contains i && Region.free .any L.toArray l i) = true) (hl : l.setIfInBounds i true = l') (h : RP c o s v) (hN : AN c L.toArray Q n l' (s.put o.dst v)) : AN c L.toArray Q (n + 1) l s := by
  intro hcl g a w hs
  simp only [Bool.and_eq_true] at hok
  obtain ⟨⟨h1, h2⟩, h3⟩ := hok
  obtain ⟨x, h4, h5⟩ := h g a w hs
  have hr : i ∈ Region.ready .any L.toArray l := by simpa using h2
  have hi' : L.toArray[i]? = some o := by simpa using hi
  subst hl
  exact anyN_early (N := 0) (oi := o) (fun j hj hlt => .inl rfl) hi' (Region.noSelect_spec h1) (QQ_noP hp _ _) n l a w hcl (Region.free_spec hi' h3) hr (.inl ⟨by simp [Region.wanted, hg], fun w' _ => h5 w'⟩) trivial (hN (closed_set hcl hr) g _ w (hs.put o.dst (dok_spec hd) h4))
theorem AN.rpy {v : V} {j : Nat} {b : Bool} (hi : L[i]? = some o) (hg : o.guard = some (j, b)) (hy : yld L.toArray s j = some b) (hd : dok s o = true) (hp : noP Q) (hok : (Region.noSelect L.toArray && (Region.ready .any L.toArray l).contains i && Region.free .any L.toArray l i) = true) (hl : l.setIfInBounds i true = l') (h : RP c o s v) (hN : AN c L.toArray Q n l' (s.put o.dst v)) : AN c L.toArray Q (n + 1) l s := by
  intro hcl g a w hs
  simp only [Bool.and_eq_true] at hok
  obtain ⟨⟨h1, h2⟩, h3⟩ := hok
  obtain ⟨x, h4, h5⟩ := h g a w hs
  have hr : i ∈ Region.ready .any L.toArray l := by simpa using h2
  have hi' : L.toArray[i]? = some o := by simpa using hi
  subst hl
  exact anyN_early (N := 0) (oi := o) (fun j hj hlt => .inl rfl) hi' (Region.noSelect_spec h1) (QQ_noP hp _ _) n l a w hcl (Region.free_spec hi' h3) hr (.inl ⟨by simp [Region.wanted, hg, yld_spec hy hs], fun w' _ => h5 w'⟩) trivial (hN (closed_set hcl hr) g _ w (hs.put o.dst (dok_spec hd) h4))
theorem AN.skip {j : Nat} {b : Bool} (hi : L[i]? = some o) (hg : o.guard = some (j, b)) (hy : (∃ b', yld L.toArray s j = some b' ∧ (b' == b) = false) ∨ und L.toArray s j) (hd : dok s o = true) (hp : noP Q) (hok : (Region.noSelect L.toArray && (Region.ready .any L.toArray l).contains i && Region.free .any L.toArray l i) = true) (hl : l.setIfInBounds i true = l') (hN : AN c L.toArray Q n l' (s.put o.dst (.d (.p undef)))) : AN c L.toArray Q (n + 1) l s := by
  intro hcl g a w hs
  simp only [Bool.and_eq_true] at hok
  obtain ⟨⟨h1, h2⟩, h3⟩ := hok
  have hr : i ∈ Region.ready .any L.toArray l := by simpa using h2
  have hi' : L.toArray[i]? = some o := by simpa using hi
  subst hl
  refine anyN_early (N := 0) (oi := o) (v := undef) (fun j hj hlt => .inl rfl) hi' (Region.noSelect_spec h1) (QQ_noP hp _ _) n l a w hcl (Region.free_spec hi' h3) hr (.inr ⟨?_, rfl⟩) trivial (hN (closed_set hcl hr) g _ w (hs.put o.dst (dok_spec hd) (.d _ _ (.p _))))
  rcases hy with ⟨b', h, hb⟩ | h
  · simp only [Region.wanted, hg, yld_spec h hs]; simpa using hb
  simp only [Region.wanted, hg, und_spec h hs]; simp
def BR (c : Cx) (L : List Oper) (Q : Exit → S → Prop) (n : Nat) (l : Array Bool) (s : S) (i : Nat) : Prop := closedL .any L.toArray l → i ∈ Region.ready .any L.toArray l → ∀ g a w, Sim c g s a w → wpOp c.P L.toArray (QQ c Q) i (fun a' w' => ((fun _ => true) i = true → (fun _ => True) w') ∧ anyN c.P .any L.toArray (QQ c Q) (fun _ => True) (fun _ => true) n (l.setIfInBounds i true) a' w') a w
theorem BR.mk (hi : L[i]? = some o) (hg : o.guard = none) (hl : l.setIfInBounds i true = l') (h : Step c o s (AN c L.toArray Q n l')) : BR c L Q n l s i := fun hcl hr g a w hs =>
  wpOp_of (by simpa using hi) hg (h g a w hs _ _ fun g' s' a' w' hn hs' => ⟨fun _ => trivial, by rw [hl]; exact hn (hl ▸ closed_set hcl hr) g' a' w' hs'⟩)
theorem AN.nil (hr : Region.ready .any L.toArray l = []) (h : Q .normal s) : AN c L.toArray Q 0 l s := fun hcl g a w hs => ⟨hr, g, s, h, hs⟩
theorem AN.less {s' : S} (h : AN c L.toArray Q n l s') (hl : Less s' s) : AN c L.toArray Q n l s := fun hcl g a w hs => h hcl g a w (hs.less hl)
theorem ST.rd {N : S → Prop} {v : V} (hd : dok s o = true) (h : RD c o s v) (hN : N (s.put o.dst v)) : Step c o s N := by
  intro g a w hs K Q hK
  obtain ⟨x, h1, h2⟩ := h g a w hs
  unfold Oper.wp
  rw [h2 w (Below.refl _ _)]
  exact hK g _ _ _ hN (hs.put o.dst (dok_spec hd) h1)
theorem ST.rp {N : S → Prop} {v : V} (hd : dok s o = true) (h : RP c o s v) (hN : N (s.put o.dst v)) : Step c o s N := ST.rd hd h.rd hN
theorem ST.st {N : S → Prop} {X : S} (h : Step c o s (fun s' => s' = X)) (hN : N X) : Step c o s N := fun g a w hs K Q hK => h g a w hs K Q fun g' s' a' w' h1 h2 => hK g' s' a' w' (by rw [h1]; exact hN) h2
theorem ST.sm {N : S → Prop} {X : S} (h : StepM c o s (fun s' => s' = X)) (hN : N X) : Step c o s N := ST.st h.step hN
theorem ST.call {N : S → Prop} {post : V → Prop} (h : StepM c o s (fun s' => ∃ v, post v ∧ v.pure ∧ s' = s.put o.dst v)) (hN : ∀ v, post v → v.pure → N (s.put o.dst v)) : Step c o s N := fun g a w hs K Q hK => h.step g a w hs K Q fun g' s' a' w' ⟨v, h1, h2, h3⟩ h4 => hK g' s' a' w' (by rw [h3]; exact hN v h1 h2) h4
end
theorem am_sameCosts (a b : List Nat) (n : Nat) (h60 : n ≤ 60) (ha : a.length = n) (hb : b.length = n) : Fn Tryd.prog 21 [.d (.sl 1 8 (a.map encN)), .d (.sl 1 8 (b.map encN))] (fun v => v = .b (decide (a = b))) := by
 obtain ⟨r, hr⟩ : ∃ r, decide (a = b) = r := ⟨_, rfl⟩
 have h0 : decide (a.drop 0 = b.drop 0) = r := by rw [List.drop_zero, List.drop_zero]; exact hr
 rw [hr]
 clear hr
 refine Fn.intro (n := 21) ⟨Tryd.func21, rfl, rfl, rfl, rfl⟩ zT8 zT14 fun w0 out => ?_
 apply AW.sr
 refine AL.z ?_
 apply AL.nil
 try simp only [thenS, S.put, enum, List.nil_append, List.cons_append, List.append_nil, Nat.zero_add, Nat.reduceAdd]
 apply AW.seq
 apply AW.sr
 refine AL.z ?_
 apply AL.nil
 try simp only [nd]
 apply AW.block
 refine AW.loop (fun s' => ∃ k : Nat, k ≤ n ∧ decide (a.drop k = b.drop k) = r ∧ s' = ⟨21, [(0, .d (.sl 1 8 (a.map encN))), (1, .d (.sl 1 8 (b.map encN))), (5, .i k)], [], []⟩) (fun s' => n - s'.nat 5) ⟨_, ?_, 0, by omega, h0, rfl⟩ ?_
 ·exact Less.a0
 clear h0
 rintro s' ⟨k, hk, hr, rfl⟩
 by_cases hlt : k < n
 ·obtain ⟨x, hx⟩ := get_lt ha hlt
  obtain ⟨y, hy⟩ := get_lt hb hlt
  have e1 : a.drop k = x :: a.drop (k + 1) := by
   have hi := (List.getElem?_eq_some_iff.1 hx)
   rw [List.drop_eq_getElem_cons hi.1, hi.2]
  have e2 : b.drop k = y :: b.drop (k + 1) := by
   have hi := (List.getElem?_eq_some_iff.1 hy)
   rw [List.drop_eq_getElem_cons hi.1, hi.2]
  rw [e1, e2] at hr
  clear e1 e2
  by_cases hxy : x = y
  ·have hr2 : decide (a.drop (k + 1) = b.drop (k + 1)) = r := by
    rw [← hr]
    subst hxy
    exact decide_eq_decide.2 ⟨fun h => by rw [h], fun h => (List.cons.inj h).2⟩
   clear hr
   apply AW.seq
   apply AW.sr
   iterate 4 refine AL.z ?_
   apply AL.nil
   try simp only [nd]
   refine AW.condT rfl ?_
   apply AW.skip
   try simp only [thenS]
   apply AW.seq
   apply AW.block
   apply AW.seq
   refine AW.draw [(0, true), (1, true), (2, true), (3, true), (4, true), (5, true), (6, true), (7, true), (8, true)] (fun i => !([] : List Nat).contains i) 9 zT10 zT10 rfl zT10 ?_
   iterate 9 refine AD1.z ?_
   refine AD1.nil ?_
   try simp only [nd]
   refine AW.condF rfl ?_
   apply AW.skip
   try simp only [thenS]
   apply AW.region
   iterate 3 refine AL.z ?_
   apply AL.nil
   try simp only [nd]
   refine ⟨_, ?_, ⟨k + 1, by omega, hr2, rfl⟩, ?_⟩
   ·exact Less.a0
   simp [S.nat, fnd]; omega
  have hr2 : r = false := by
   rw [← hr]
   exact decide_eq_false fun h => hxy (List.cons.inj h).1
  subst hr2
  apply AW.seq
  apply AW.sr
  iterate 4 refine AL.z ?_
  apply AL.nil
  try simp only [nd]
  refine AW.condT rfl ?_
  apply AW.skip
  try simp only [thenS]
  apply AW.seq
  apply AW.block
  apply AW.seq
  refine AW.draw [(0, true), (1, true), (2, true), (3, true), (4, true), (5, true), (6, true), (7, true), (8, true)] (fun i => !([] : List Nat).contains i) 9 zT10 zT10 rfl zT10 ?_
  iterate 9 refine AD1.z ?_
  refine AD1.nil ?_
  try simp only [nd]
  refine AW.condT rfl ?_
  apply AW.sr
  refine AL.z ?_
  apply AL.nil
  try simp only [nd]
  apply AW.ret
  exact ⟨[_], ⟨rfl, trivial⟩, rfl, by simp [tupOf, V.pure, V.has, V.hasL]⟩
 obtain rfl : k = n := by omega
 rw [List.drop_eq_nil_of_le zT13, List.drop_eq_nil_of_le zT13] at hr
 have hr2 : r = true := by rw [← hr]; rfl
 subst hr2
 apply AW.seq
 apply AW.sr
 iterate 4 refine AL.z ?_
 apply AL.nil
 try simp only [nd]
 refine AW.condF rfl ?_
 refine AW.exit ?_
 try simp only [thenS, inBlockS, ↓reduceIte, Nat.reduceEqDiff]
 apply AW.sr
 refine AL.z ?_
 apply AL.nil
 try simp only [nd]
 apply AW.ret
 exact ⟨[_], ⟨rfl, trivial⟩, rfl, by simp [tupOf, V.pure, V.has, V.hasL]⟩
theorem am_leastOf (a : List Nat) (h60 : a.length ≤ 60) : Fn Tryd.prog 20 [.d (.sl 1 8 (a.map encN))] (fun v => v = .i (mnL a)) := by
 have hbig := big_eq
 obtain ⟨n, ha⟩ : ∃ n, a.length = n := ⟨_, rfl⟩
 rw [ha] at h60
 have hB : ((1152921504606846976 : Int)) = ((mnL (a.take 0) : Nat) : Int) := rfl
 refine Fn.intro (n := 22) ⟨Tryd.func20, rfl, rfl, rfl, rfl⟩ zT8 zT14 fun w0 out => ?_
 apply AW.sr
 refine AL.z ?_
 apply AL.nil
 try simp only [thenS, S.put, enum, List.nil_append, List.cons_append, List.append_nil, Nat.zero_add, Nat.reduceAdd]
 apply AW.sr
 refine AL.z ?_
 apply AL.nil
 try simp only [nd]
 apply AW.seq
 apply AW.sr
 refine AL.z ?_
 apply AL.nil
 try simp only [nd]
 apply AW.block
 refine AW.loop (fun s' => ∃ (k : Nat) (v : Int), k ≤ n ∧ v = mnL (a.take k) ∧ s' = ⟨22, [(0, .d (.sl 1 8 (a.map encN))), (3, .i v), (4, .i k)], [], []⟩) (fun s' => n - s'.nat 4) ⟨_, ?_, 0, 1152921504606846976, by omega, hB, rfl⟩ ?_
 ·exact Less.a0
 clear hB
 rintro s' ⟨k, v, hk, hv, rfl⟩
 by_cases hlt : k < n
 ·obtain ⟨x, hx⟩ := get_lt ha hlt
  have hs := mnL_snoc hx
  by_cases hxv : (x : Int) < v
  ·rw [if_pos zT13] at hs
   apply AW.seq
   apply AW.sr
   iterate 4 refine AL.z ?_
   apply AL.nil
   try simp only [nd]
   refine AW.condT rfl ?_
   apply AW.skip
   try simp only [thenS]
   apply AW.seq
   apply AW.block
   apply AW.sr
   iterate 6 refine AL.z ?_
   apply AL.nil
   try simp only [nd]
   refine AW.condT rfl ?_
   apply AW.region
   iterate 5 refine AL.z ?_
   apply AL.nil
   try simp only [nd]
   apply AW.region
   iterate 3 refine AL.z ?_
   apply AL.nil
   try simp only [nd]
   refine ⟨_, ?_, ⟨k + 1, x, by omega, by rw [hs], rfl⟩, ?_⟩
   ·exact Less.a0
   simp [S.nat, fnd]; omega
  rw [if_neg zT13] at hs
  apply AW.seq
  apply AW.sr
  iterate 4 refine AL.z ?_
  apply AL.nil
  try simp only [nd]
  refine AW.condT rfl ?_
  apply AW.skip
  try simp only [thenS]
  apply AW.seq
  apply AW.block
  apply AW.sr
  iterate 6 refine AL.z ?_
  apply AL.nil
  try simp only [nd]
  refine AW.condF rfl ?_
  apply AW.skip
  try simp only [thenS]
  apply AW.region
  iterate 3 refine AL.z ?_
  apply AL.nil
  try simp only [nd]
  refine ⟨_, ?_, ⟨k + 1, v, by omega, by rw [hs]; exact hv, rfl⟩, ?_⟩
  ·exact Less.a0
  simp [S.nat, fnd]; omega
 obtain rfl : k = n := by omega
 rw [List.take_of_length_le zT13] at hv
 subst hv
 apply AW.seq
 apply AW.sr
 iterate 4 refine AL.z ?_
 apply AL.nil
 try simp only [nd]
 refine AW.condF rfl ?_
 refine AW.exit ?_
 try simp only [thenS, inBlockS, ↓reduceIte, Nat.reduceEqDiff]
 apply AW.sr
 iterate 2 refine AL.z ?_
 apply AL.nil
 try simp only [nd]
 apply AW.ret
 exact ⟨[_], ⟨rfl, trivial⟩, rfl, by simp [tupOf, V.pure, V.has, V.hasL]⟩
theorem am_behind (st : Int) (sts : List St) (d : List Nat) (i o : Int) (n : Nat) (h60 : n ≤ 60) (hn : sts.length = n) (hd : d.length = n) (hdb : ∀ x ∈ d, x = big ∨ x ≤ 1000000000000) (hx4 : ∀ x ∈ sts, x.arcs.length ≤ 400) (hok : ∀ x ∈ sts, ∀ a ∈ x.arcs, arOk n a = true) : FnO Tryd.prog 19 [mV ⟨st, sts⟩, .d (.sl 1 8 (d.map encN)), .i i, .i o] (fun v H => v = .own 901 1 n false ∧ H = [(901, ⟨3, (bhD sts d i o).map V.n, false, 1⟩)]) := by
 have hbig := big_eq
 refine FnO.intro (n := 106) ⟨Tryd.func19, rfl, rfl, rfl, rfl⟩ zT8 zT14 fun w0 out => ?_
 apply AW.sr
 refine AL.sm rfl (sm_box 4 rfl rfl rfl rfl rfl) ?_
 refine AL.z ?_
 apply AL.nil
 try simp only [nd, setL, V.cs, nz, Nat.reduceAdd, nm, ns, enum]
 apply AW.sr
 iterate 2 refine AL.z ?_
 refine AL.sm rfl (sm_make_map 901 V.i (0) Tryd.underlying61 inf3 rfl rfl rfl rfl rfl zT13 zT12 rfl rfl) ?_
 refine AL.z ?_
 apply AL.nil
 try simp only [nd, setL, V.cs, nz, Nat.reduceAdd, nm, ns]
 apply AW.seq
 apply AW.sr
 refine AL.z ?_
 apply AL.nil
 try simp only [nd]
 apply AW.block
 refine AW.loop (fun s' => ∃ (k : Nat) (R : List Nat), k ≤ n ∧ R.length = n ∧ (∀ j, j < k → R[j]? = some big) ∧ s' = ⟨106, [(1, .d (.sl 1 8 (d.map encN))), (2, .i i), (3, .i o), (4, .ref 4 0), (9, .own 901 1 n false), (10, .i k)], [(4, ⟨24, [.i st, .d (stsD sts)], false, 0⟩), (901, ⟨3, R.map V.n, false, 1⟩)], []⟩) (fun s' => n - s'.nat 10) ⟨_, ?_, 0, List.replicate n 0, by omega, by simp, (fun j h => absurd h zT13), rfl⟩ ?_
 ·have hz : (List.replicate n (0 : Int)).map V.i = (List.replicate n 0).map V.n := by simp
  rw [hz] 
  exact Less.a0
 rintro s' ⟨k, R, hk, hRl, hR, rfl⟩
 by_cases hlt : k < n
 ·have hkR : k < R.length := by omega
  apply AW.seq
  apply AW.sr
  iterate 4 refine AL.z ?_
  apply AL.nil
  try simp only [nd]
  refine AW.condT rfl ?_
  apply AW.skip
  try simp only [thenS]
  apply AW.seq
  apply AW.block
  apply AW.region
  iterate 3 refine AL.z ?_
  refine AL.st rfl (st_store_map2 (v := big) inf3 rfl rfl rfl rfl rfl rfl rfl rfl zT9) ?_
  apply AL.nil
  try simp only [nd, setL, V.cs, nz, Nat.reduceAdd, nm, ns]
  apply AW.region
  iterate 3 refine AL.z ?_
  apply AL.nil
  try simp only [nd]
  refine ⟨_, ?_, ⟨k + 1, R.set k big, by omega, by simpa using hRl, fun j hj => ?_, rfl⟩, ?_⟩
  ·exact Less.a0
  ·rw [List.getElem?_set]
   by_cases e : k = j
   ·subst e; simp [hkR]
   rw [if_neg e]; exact hR j zT13
  simp [S.nat, fnd]; omega
 obtain rfl : k = n := by omega
 have hR0 : R = bhR sts d i o 0 := by
  refine List.ext_getElem? fun j => ?_
  by_cases hj : j < k
  ·unfold bhR
   rw [hR j hj, bl_get zT13]; rfl
  rw [List.getElem?_eq_none zT13, List.getElem?_eq_none (by simp [bhR, bl]; omega)]
 clear hR hRl
 apply AW.seq
 apply AW.sr
 iterate 4 refine AL.z ?_
 apply AL.nil
 try simp only [nd]
 refine AW.condF rfl ?_
 refine AW.exit ?_
 try simp only [thenS, inBlockS, ↓reduceIte, Nat.reduceEqDiff]
 apply AW.seq
 apply AW.sr
 refine AL.z ?_
 apply AL.nil
 try simp only [nd]
 apply AW.block
 refine AW.loop (fun s' => ∃ (q : Nat), q ≤ k ∧ s' = ⟨106, [(1, .d (.sl 1 8 (d.map encN))), (2, .i i), (3, .i o), (4, .ref 4 0), (9, .own 901 1 k false), (11, .i q)], [(4, ⟨24, [.i st, .d (stsD sts)], false, 0⟩), (901, ⟨3, (bhR sts d i o q).map V.n, false, 1⟩)], []⟩) (fun s' => k - s'.nat 11) ⟨_, ?_, 0, by omega, rfl⟩ ?_
 ·rw [← hR0]; exact Less.a0
 clear hR0 hlt hk R
 rintro s' ⟨q, hq, rfl⟩
 by_cases hltq : q < k
 ·obtain ⟨x, hx⟩ := get_lt hn hltq
  obtain ⟨c, hc⟩ := get_lt hd hltq
  obtain ⟨la, hla⟩ : ∃ la, x.arcs.length = la := ⟨_, rfl⟩
  have hx4' := hx4 x (List.mem_of_getElem? hx)
  rw [hla] at hx4'
  have hxa := hok x (List.mem_of_getElem? hx)
  have hcb := hdb c (List.mem_of_getElem? hc)
  have hz := bhM_zero sts d i o c q x.arcs
  apply AW.seq
  apply AW.sr
  iterate 4 refine AL.z ?_
  apply AL.nil
  try simp only [nd]
  refine AW.condT rfl ?_
  apply AW.skip
  try simp only [thenS]
  apply AW.seq
  apply AW.block
  apply AW.sr
  iterate 7 refine AL.z ?_
  apply AL.nil
  try simp only [nd]
  apply AW.sr
  refine AL.z ?_
  apply AL.nil
  try simp only [nd]
  apply AW.block
  refine AW.loop (fun s' => ∃ (j : Nat), j ≤ la ∧ (c = big → j = 0) ∧ s' = ⟨106, [(1, .d (.sl 1 8 (d.map encN))), (2, .i i), (3, .i o), (4, .ref 4 0), (9, .own 901 1 k false), (11, .i q), (12, .d (arsD x.arcs)), (13, .i j)], [(4, ⟨24, [.i st, .d (stsD sts)], false, 0⟩), (901, ⟨3, (bhM sts d i o c q j x.arcs).map V.n, false, 1⟩)], []⟩) (fun s' => la - s'.nat 13) ⟨_, ?_, 0, by omega, (fun _ => rfl), rfl⟩ ?_
  ·rw [hz]; exact Less.a0
  clear hz
  rintro s' ⟨j, hj, hj0, rfl⟩
  by_cases hcb2 : c = big
  ·obtain rfl := hj0 hcb2
   subst hcb2
   have hz := bhR_none (sts := sts) (i := i) (o := o) hc
   have hz2 := bhM_zero sts d i o big q x.arcs
   rw [hz2]
   have hbi : ((big : Nat) : Int) = 1152921504606846976 := rfl
   by_cases hl0 : 0 < la
   ·skip
    apply AW.seq
    apply AW.sr
    iterate 5 refine AL.z ?_
    iterate 5 refine AL.zy ?_
    refine AL.z ?_
    apply AL.nil
    try simp only [nd]
    refine AW.condF rfl ?_
    refine AW.exit ?_
    try simp only [thenS, inBlockS, ↓reduceIte, Nat.reduceEqDiff]
    apply AW.region
    iterate 3 refine AL.z ?_
    apply AL.nil
    try simp only [nd]
    refine ⟨_, ?_, ⟨q + 1, by omega, rfl⟩, ?_⟩
    ·rw [hz]; exact Less.a0
    simp [S.nat, fnd]; omega
   skip
   apply AW.seq
   apply AW.sr
   iterate 5 refine AL.z ?_
   refine AL.noV rfl rfl rfl rfl ?_
   refine AL.noV rfl rfl rfl rfl ?_
   refine AL.noV rfl rfl rfl rfl ?_
   refine AL.noV rfl rfl rfl rfl ?_
   refine AL.noV rfl rfl rfl rfl ?_
   refine AL.z ?_
   apply AL.nil
   try simp only [nd]
   refine AW.condF rfl ?_
   refine AW.exit ?_
   try simp only [thenS, inBlockS, ↓reduceIte, Nat.reduceEqDiff]
   apply AW.region
   iterate 3 refine AL.z ?_
   apply AL.nil
   try simp only [nd]
   refine ⟨_, ?_, ⟨q + 1, by omega, rfl⟩, ?_⟩
   ·rw [hz]; exact Less.a0
   simp [S.nat, fnd]; omega
  have hcb3 : c ≤ 1000000000000 := by omega
  by_cases hltj : j < la
  ·obtain ⟨a, ha⟩ := get_lt hla hltj
   have h3 := hxa a (List.mem_of_getElem? ha)
   simp only [arOk, decide_eq_true_eq] at h3
   obtain ⟨ai, ao, aw, at'⟩ := a
   simp only at h3
   obtain ⟨w, rfl⟩ := Int.eq_ofNat_of_zero_le h3.2.2.1.1
   obtain ⟨p, rfl⟩ := Int.eq_ofNat_of_zero_le h3.2.2.2.1
   have hpn : p < k := by omega
   have hMl : (bhM sts d i o c q j x.arcs).length = k := by simp [bhM, bl, hd]
   have hpM : p < (bhM sts d i o c q j x.arcs).length := by omega
   have hpv : (bhM sts d i o c q j x.arcs)[p]? = some (bhA i o c p (bhS sts d i o p q) (x.arcs.take j)) := bl_get zT13
   have hpb := Nat.le_trans (bhA_le i o c p (bhS sts d i o p q) (x.arcs.take j)) (bhS_le sts d i o p q)
   have hskip := bhM_skip (sts := sts) (d := d) (i := i) (o := o) (c := c) (k := q) ha
   have hput := bhM_put (sts := sts) (d := d) (i := i) (o := o) (c := c) (k := q) (p := p) ha zT13
   simp only [Int.toNat_natCast] at hskip hput
   obtain ⟨v, hvd⟩ : ∃ v, bhA i o c p (bhS sts d i o p q) (x.arcs.take j) = v := ⟨_, rfl⟩
   rw [hvd] at hpv hpb hput
   obtain ⟨M, hM⟩ : ∃ M, bhM sts d i o c q j x.arcs = M := ⟨_, rfl⟩
   rw [hM] at hpv hMl hpM hskip hput ⊢
   have hj1 : c = big → j + 1 = 0 := fun h => absurd h hcb2
   by_cases c1 : ai = i
   ·by_cases c2 : ao = o
    ·by_cases c3 : c + w < v
     ·have hs := hput c1 c2 trivial c3
      clear hskip hput hM
      apply AW.seq
      apply AW.sr
      iterate 5 refine AL.z ?_
      iterate 5 refine AL.zy ?_
      refine AL.z ?_
      apply AL.nil
      try simp only [nd]
      refine AW.condT rfl ?_
      apply AW.skip
      try simp only [thenS]
      apply AW.seq
      apply AW.block
      apply AW.seq
      refine AW.draw [(0, true), (1, true), (2, true), (3, true), (4, true), (5, true), (6, true), (7, true), (8, true), (9, true), (10, true), (11, true), (12, true), (13, true), (14, true), (15, true), (16, true), (17, true), (18, true), (19, true), (20, true), (21, true), (22, true), (23, true), (24, true), (25, true), (26, true), (27, true), (28, true), (29, true), (30, true), (31, true), (32, true), (33, true), (34, true), (35, true), (36, true)] (fun i => !([] : List Nat).contains i) 37 zT10 zT10 rfl zT10 ?_
      iterate 8 refine AD1.z ?_
      iterate 7 refine AD1.zy ?_
      iterate 2 refine AD1.z ?_
      iterate 19 refine AD1.zy ?_
      refine AD1.z ?_
      refine AD1.nil ?_
      try simp only [nd]
      refine AW.condT rfl ?_
      refine AW.draw [(0, true), (1, true), (2, true), (3, true), (4, true), (5, true), (6, true), (7, true), (8, true), (9, true), (10, true), (11, true), (12, true), (13, true), (14, true), (15, true), (16, true), (17, false)] (fun i => !([17] : List Nat).contains i) 18 zT10 zT10 rfl zT10 ?_
      iterate 17 refine AD1.z ?_
      refine AD1.go ?_
      refine AD2.go ?_
      refine AD3.st rfl rfl rfl (st_store_map2 (v := c + w) inf3 rfl rfl rfl rfl rfl rfl rfl rfl zT9) ?_
      refine AD3.nil ?_
      try simp only [nd, setL, V.cs, nz, Nat.reduceAdd, nm, ns]
      apply AW.region
      iterate 3 refine AL.z ?_
      apply AL.nil
      try simp only [nd]
      refine ⟨_, ?_, ⟨j + 1, by omega, hj1, rfl⟩, ?_⟩
      ·rw [← hs]; exact Less.a0
      simp [S.nat, fnd]; omega
     have hs := hskip fun q' hq' ⟨_, _, e3, e4⟩ => by
      have : p = q' := by omega
      subst this
      rw [hvd] at e4
      exact c3 e4
     clear hskip hput hM
     apply AW.seq
     apply AW.sr
     iterate 5 refine AL.z ?_
     iterate 5 refine AL.zy ?_
     refine AL.z ?_
     apply AL.nil
     try simp only [nd]
     refine AW.condT rfl ?_
     apply AW.skip
     try simp only [thenS]
     apply AW.seq
     apply AW.block
     apply AW.seq
     refine AW.draw [(0, true), (1, true), (2, true), (3, true), (4, true), (5, true), (6, true), (7, true), (8, true), (9, true), (10, true), (11, true), (12, true), (13, true), (14, true), (15, true), (16, true), (17, true), (18, true), (19, true), (20, true), (21, true), (22, true), (23, true), (24, true), (25, true), (26, true), (27, true), (28, true), (29, true), (30, true), (31, true), (32, true), (33, true), (34, true), (35, true), (36, true)] (fun i => !([] : List Nat).contains i) 37 zT10 zT10 rfl zT10 ?_
     iterate 8 refine AD1.z ?_
     iterate 7 refine AD1.zy ?_
     iterate 2 refine AD1.z ?_
     iterate 19 refine AD1.zy ?_
     refine AD1.z ?_
     refine AD1.nil ?_
     try simp only [nd]
     refine AW.condF rfl ?_
     apply AW.skip
     try simp only [thenS]
     apply AW.region
     iterate 3 refine AL.z ?_
     apply AL.nil
     try simp only [nd]
     refine ⟨_, ?_, ⟨j + 1, by omega, hj1, rfl⟩, ?_⟩
     ·rw [hs]; exact Less.a0
     simp [S.nat, fnd]; omega
    have hs := hskip fun q' hq' ⟨_, e2, _⟩ => c2 e2
    clear hskip hput hM
    apply AW.seq
    apply AW.sr
    iterate 5 refine AL.z ?_
    iterate 5 refine AL.zy ?_
    refine AL.z ?_
    apply AL.nil
    try simp only [nd]
    refine AW.condT rfl ?_
    apply AW.skip
    try simp only [thenS]
    apply AW.seq
    apply AW.block
    apply AW.seq
    refine AW.draw [(0, true), (1, true), (2, true), (3, true), (4, true), (5, true), (6, true), (7, true), (8, true), (9, true), (10, true), (11, true), (12, true), (13, true), (14, true), (15, true), (16, true), (17, true), (18, true), (19, true), (20, true), (21, true), (22, true), (23, true), (24, true), (25, true), (26, true), (27, true), (28, true), (29, true), (30, true), (31, true), (32, true), (33, true), (34, true), (35, true), (36, true)] (fun i => !([] : List Nat).contains i) 37 zT10 zT10 rfl zT10 ?_
    iterate 8 refine AD1.z ?_
    iterate 7 refine AD1.zy ?_
    iterate 2 refine AD1.z ?_
    refine AD1.noV rfl rfl rfl rfl rfl (fun _ _ h => h) ?_
    refine AD1.noV rfl rfl rfl rfl rfl (fun _ _ h => h) ?_
    refine AD1.noV rfl rfl rfl rfl rfl (fun _ _ h => h) ?_
    refine AD1.noV rfl rfl rfl rfl rfl (fun _ _ h => h) ?_
    refine AD1.noV rfl rfl rfl rfl rfl (fun _ _ h => h) ?_
    refine AD1.noV rfl rfl rfl rfl rfl (fun _ _ h => h) ?_
    refine AD1.noV rfl rfl rfl rfl rfl (fun _ _ h => h) ?_
    refine AD1.noV rfl rfl rfl rfl rfl (fun _ _ h => h) ?_
    refine AD1.noV rfl rfl rfl rfl rfl (fun _ _ h => h) ?_
    refine AD1.noV rfl rfl rfl rfl rfl (fun _ _ h => h) ?_
    refine AD1.noV rfl rfl rfl rfl rfl (fun _ _ h => h) ?_
    refine AD1.noV rfl rfl rfl rfl rfl (fun _ _ h => h) ?_
    refine AD1.noV rfl rfl rfl rfl rfl (fun _ _ h => h) ?_
    refine AD1.noV rfl rfl rfl rfl rfl (fun _ _ h => h) ?_
    refine AD1.noV rfl rfl rfl rfl rfl (fun _ _ h => h) ?_
    refine AD1.noV rfl rfl rfl rfl rfl (fun _ _ h => h) ?_
    refine AD1.noV rfl rfl rfl rfl rfl (fun _ _ h => h) ?_
    refine AD1.noV rfl rfl rfl rfl rfl (fun _ _ h => h) ?_
    refine AD1.noV rfl rfl rfl rfl rfl (fun _ _ h => h) ?_
    refine AD1.z ?_
    refine AD1.nil ?_
    try simp only [nd]
    refine AW.condF rfl ?_
    apply AW.skip
    try simp only [thenS]
    apply AW.region
    iterate 3 refine AL.z ?_
    apply AL.nil
    try simp only [nd]
    refine ⟨_, ?_, ⟨j + 1, by omega, hj1, rfl⟩, ?_⟩
    ·rw [hs]; exact Less.a0
    simp [S.nat, fnd]; omega
   have hs := hskip fun q' hq' ⟨e1, _⟩ => c1 e1
   clear hskip hput hM
   apply AW.seq
   apply AW.sr
   iterate 5 refine AL.z ?_
   iterate 5 refine AL.zy ?_
   refine AL.z ?_
   apply AL.nil
   try simp only [nd]
   refine AW.condT rfl ?_
   apply AW.skip
   try simp only [thenS]
   apply AW.seq
   apply AW.block
   apply AW.seq
   refine AW.draw [(0, true), (1, true), (2, true), (3, true), (4, true), (5, true), (6, true), (7, true), (8, true), (9, true), (10, true), (11, true), (12, true), (13, true), (14, true), (15, true), (16, true), (17, true), (18, true), (19, true), (20, true), (21, true), (22, true), (23, true), (24, true), (25, true), (26, true), (27, true), (28, true), (29, true), (30, true), (31, true), (32, true), (33, true), (34, true), (35, true), (36, true)] (fun i => !([] : List Nat).contains i) 37 zT10 zT10 rfl zT10 ?_
   iterate 8 refine AD1.z ?_
   refine AD1.noV rfl rfl rfl rfl rfl (fun _ _ h => h) ?_
   refine AD1.noV rfl rfl rfl rfl rfl (fun _ _ h => h) ?_
   refine AD1.noV rfl rfl rfl rfl rfl (fun _ _ h => h) ?_
   refine AD1.noV rfl rfl rfl rfl rfl (fun _ _ h => h) ?_
   refine AD1.noV rfl rfl rfl rfl rfl (fun _ _ h => h) ?_
   refine AD1.noV rfl rfl rfl rfl rfl (fun _ _ h => h) ?_
   refine AD1.noV rfl rfl rfl rfl rfl (fun _ _ h => h) ?_
   iterate 2 refine AD1.z ?_
   refine AD1.noV rfl rfl rfl rfl rfl (fun _ _ h => h) ?_
   refine AD1.noV rfl rfl rfl rfl rfl (fun _ _ h => h) ?_
   refine AD1.noV rfl rfl rfl rfl rfl (fun _ _ h => h) ?_
   refine AD1.noV rfl rfl rfl rfl rfl (fun _ _ h => h) ?_
   refine AD1.noV rfl rfl rfl rfl rfl (fun _ _ h => h) ?_
   refine AD1.noV rfl rfl rfl rfl rfl (fun _ _ h => h) ?_
   refine AD1.noV rfl rfl rfl rfl rfl (fun _ _ h => h) ?_
   refine AD1.noV rfl rfl rfl rfl rfl (fun _ _ h => h) ?_
   refine AD1.noV rfl rfl rfl rfl rfl (fun _ _ h => h) ?_
   refine AD1.noV rfl rfl rfl rfl rfl (fun _ _ h => h) ?_
   refine AD1.noV rfl rfl rfl rfl rfl (fun _ _ h => h) ?_
   refine AD1.noV rfl rfl rfl rfl rfl (fun _ _ h => h) ?_
   refine AD1.noV rfl rfl rfl rfl rfl (fun _ _ h => h) ?_
   refine AD1.noV rfl rfl rfl rfl rfl (fun _ _ h => h) ?_
   refine AD1.noV rfl rfl rfl rfl rfl (fun _ _ h => h) ?_
   refine AD1.noV rfl rfl rfl rfl rfl (fun _ _ h => h) ?_
   refine AD1.noV rfl rfl rfl rfl rfl (fun _ _ h => h) ?_
   refine AD1.noV rfl rfl rfl rfl rfl (fun _ _ h => h) ?_
   refine AD1.noV rfl rfl rfl rfl rfl (fun _ _ h => h) ?_
   refine AD1.z ?_
   refine AD1.nil ?_
   try simp only [nd]
   refine AW.condF rfl ?_
   apply AW.skip
   try simp only [thenS]
   apply AW.region
   iterate 3 refine AL.z ?_
   apply AL.nil
   try simp only [nd]
   refine ⟨_, ?_, ⟨j + 1, by omega, hj1, rfl⟩, ?_⟩
   ·rw [hs]; exact Less.a0
   simp [S.nat, fnd]; omega
  have he := bhM_end (i := i) (o := o) (j := j) hx hc hcb2 zT13
  apply AW.seq
  apply AW.sr
  iterate 5 refine AL.z ?_
  refine AL.noV rfl rfl rfl rfl ?_
  refine AL.noV rfl rfl rfl rfl ?_
  refine AL.noV rfl rfl rfl rfl ?_
  refine AL.noV rfl rfl rfl rfl ?_
  refine AL.noV rfl rfl rfl rfl ?_
  refine AL.z ?_
  apply AL.nil
  try simp only [nd]
  refine AW.condF rfl ?_
  refine AW.exit ?_
  try simp only [thenS, inBlockS, ↓reduceIte, Nat.reduceEqDiff]
  apply AW.region
  iterate 3 refine AL.z ?_
  apply AL.nil
  try simp only [nd]
  refine ⟨_, ?_, ⟨q + 1, by omega, rfl⟩, ?_⟩
  ·rw [← he]; exact Less.a0
  simp [S.nat, fnd]; omega
 obtain rfl : q = k := by omega
 have hL : (bhR sts d i o q).length = q := by simp [bhR, bl, hd]
 have hfin : bhR sts d i o q = bhD sts d i o := by unfold bhR bhD; rw [hd]
 rw [hfin] at hL ⊢
 apply AW.seq
 apply AW.sr
 iterate 4 refine AL.z ?_
 apply AL.nil
 try simp only [nd]
 refine AW.condF rfl ?_
 refine AW.exit ?_
 try simp only [thenS, inBlockS, ↓reduceIte, Nat.reduceEqDiff]
 apply AW.sr
 iterate 2 refine AL.z ?_
 apply AL.nil
 try simp only [nd]
 apply AW.ret
 exact ⟨[_], [(901, ⟨3, (bhD sts d i o).map V.n, false, 1⟩)], ⟨rfl, trivial⟩, ⟨rfl, trivial⟩, ⟨rfl, rfl⟩, by simp [tupOf, V.has, V.hasL], fun r row j h1 h2 => by
  simp only [fnd, beq_iff_eq] at h1
  split at h1
  ·cases h1; rw [hasL_n] at h2; cases h2
  cases h1⟩
structure Mk where
  s : Int
  w : Int
  o : List Int
structure Rn where
  f : Int
  ms : List Mk
def cmpI (a b : Int) : Int := if a < b then -1 else if b < a then 1 else 0
theorem cmpI_self (a : Int) : cmpI a a = 0 := by simp [cmpI]
theorem cmpI_ne {a b : Int} (h : a ≠ b) : cmpI a b ≠ 0 := by unfold cmpI; split <;> (try split) <;> omega
theorem cmpI_neg {a b : Int} : (cmpI a b < 0) ↔ a < b := by unfold cmpI; split <;> (try split) <;> omega
def orI : List Int → Int
  | [] => 0
  | a :: l => if a = 0 then orI l else a
theorem orI_step {k : Nat} {l : List Int} {x : Int} (hx : l[k]? = some x) (h : x = 0) : orI (l.drop k) = orI (l.drop (k + 1)) := by
  have h1 := (List.getElem?_eq_some_iff.1 hx).1
  rw [List.drop_eq_getElem_cons h1]
  rw [List.getElem?_eq_getElem h1, Option.some.injEq] at hx
  simp [orI, hx, h]
theorem orI_hit {k : Nat} {l : List Int} {x : Int} (hx : l[k]? = some x) (h : x ≠ 0) : orI (l.drop k) = x := by
  have h1 := (List.getElem?_eq_some_iff.1 hx).1
  rw [List.drop_eq_getElem_cons h1]
  rw [List.getElem?_eq_getElem h1, Option.some.injEq] at hx
  simp [orI, hx, h]
theorem orI_end {k : Nat} {l : List Int} (h : l.length ≤ k) : orI (l.drop k) = 0 := by rw [List.drop_of_length_le h]; rfl
section
variable {c : Cx} {s : S} {o : Oper}
/-- append of nothing. -/
theorem rp_append_none {t e : TypeId} {x y : Operand} {r sz bt n sz' bt' : Nat} {z : Value} {f : Bool} (hu : c.P.underlying t = some (.slice e)) (hi : Inf c.P e sz bt z)
  (ho : o.op = .call { callee := .builtin .append, args := #[x, y], argTypes := #[t, t] }) (hx : s.ev x = some (.own r sz n f)) (hy : s.ev y = some (.d (.sl sz' bt' []))) : RP c o s (.own r sz n f) := fun g a w hs => by
 have h := hs.ev hx
 have h2 := hs.ev hy
 obtain ⟨i, hi1, hi2, hi3, hi4⟩ := hi.out
 obtain ⟨ad, cap, hyv⟩ : ∃ ad cap, a.eval y = .slice ad 0 cap := by
  generalize a.eval y = u at h2
  cases h2 with
  | d _ _ h => cases h with | sl _ _ _ ad cap => exact ⟨ad, cap, rfl⟩
 refine ⟨a.eval x, h, fun w' => ?_⟩
 generalize hxx : a.eval x = u at h
 have hsrc : Src c.P i.size t (.slice ad 0 cap) 0 [] w' := by
  cases ad
  ·exact ⟨.inl ⟨e, hu⟩, fun _ => rfl, by simp [Builtin.firstCells, Sem.run], by simp [Builtin.firstCells, Sem.run], by simp, by simp⟩
  exact ⟨.inl ⟨e, hu⟩, fun _ => rfl, by simp [Builtin.firstCells, Sem.run, loadCells, loadCellsFrom], by simp [Builtin.firstCells, Sem.run, loadCells, loadCellsFrom], by simp, by simp⟩
 cases h with
 | own _ _ _ hn hcap =>
  simp only [execOp, ho, resolve, invoke, builtin, Sem.run_bind, Sem.run_pure, Result.andThen_ok, List.map_toArray, List.map_cons, List.map_nil, hxx, hyv]
  rw [run_append_nothing w' t t o.type e i hu hi1 _ n (g r).2 hn _ hsrc]
  rfl
 | ownNil =>
  simp only [execOp, ho, resolve, invoke, builtin, Sem.run_bind, Sem.run_pure, Result.andThen_ok, List.map_toArray, List.map_cons, List.map_nil, hxx, hyv]
  rw [run_append_nothing w' t t o.type e i hu hi1 none 0 0 (Nat.le_refl _) _ hsrc]
  rfl
end
theorem am_isNaN (x : Int) : Fn Tryd.prog 56 [.i x] (fun v => v = .b false) := by
 refine Fn.intro (n := 6) ⟨Tryd.func56, rfl, rfl, rfl, rfl⟩ zT8 zT14 fun w0 out => ?_
 apply AW.sr
 refine AL.z ?_
 apply AL.nil
 try simp only [thenS, S.put, enum, List.nil_append, List.cons_append, List.append_nil, Nat.zero_add, Nat.reduceAdd]
 apply AW.sr
 iterate 4 refine AL.z ?_
 apply AL.nil
 try simp only [nd]
 apply AW.ret
 exact ⟨[_], ⟨rfl, trivial⟩, rfl, by simp [tupOf, V.pure, V.has]⟩
theorem am_cmp (x y : Int) : Fn Tryd.prog 33 [.i x, .i y] (fun v => v = .i (cmpI x y)) := by
 refine Fn.intro (n := 20) ⟨Tryd.func33, rfl, rfl, rfl, rfl⟩ zT8 zT14 fun w0 out => ?_
 by_cases h1 : x < y
 ·skip
  apply AW.sr
  refine AL.z ?_
  apply AL.nil
  try simp only [thenS, S.put, enum, List.nil_append, List.cons_append, List.append_nil, Nat.zero_add, Nat.reduceAdd]
  apply AW.sr
  refine AL.z ?_
  refine AL.call (post := ?pc0) rfl (sm_call (args := [_]) ?hc0 ⟨Tryd.func56, rfl, rfl, rfl, rfl⟩ rfl rfl rfl rfl) ?_
  case hc0 => exact am_isNaN _
  rintro _ rfl -
  try dsimp only
  refine AL.z ?_
  apply AL.nil
  try simp only [nd, setL, V.cs, nz, Nat.reduceAdd, nm, ns]
  apply AW.sr
  refine AL.z ?_
  refine AL.call (post := ?pc1) rfl (sm_call (args := [_]) ?hc1 ⟨Tryd.func56, rfl, rfl, rfl, rfl⟩ rfl rfl rfl rfl) ?_
  case hc1 => exact am_isNaN _
  rintro _ rfl -
  try dsimp only
  refine AL.z ?_
  apply AL.nil
  try simp only [nd, setL, V.cs, nz, Nat.reduceAdd, nm, ns]
  apply AW.seq
  apply AW.sr
  refine AL.z ?_
  apply AL.nil
  try simp only [nd]
  refine AW.condF rfl ?_
  apply AW.skip
  try simp only [thenS]
  apply AW.seq
  apply AW.sr
  refine AL.z ?_
  apply AL.nil
  try simp only [nd]
  refine AW.condF rfl ?_
  apply AW.skip
  try simp only [thenS]
  apply AW.seq
  apply AW.sr
  iterate 3 refine AL.z ?_
  apply AL.nil
  try simp only [nd]
  refine AW.condT rfl ?_
  apply AW.sr
  refine AL.z ?_
  apply AL.nil
  try simp only [nd]
  apply AW.ret
  exact ⟨[_], ⟨rfl, trivial⟩, by simp [tupOf, cmpI, h1], by simp [tupOf, V.pure, V.has]⟩
 by_cases h2 : y < x
 ·skip
  apply AW.sr
  refine AL.z ?_
  apply AL.nil
  try simp only [thenS, S.put, enum, List.nil_append, List.cons_append, List.append_nil, Nat.zero_add, Nat.reduceAdd]
  apply AW.sr
  refine AL.z ?_
  refine AL.call (post := ?pc2) rfl (sm_call (args := [_]) ?hc2 ⟨Tryd.func56, rfl, rfl, rfl, rfl⟩ rfl rfl rfl rfl) ?_
  case hc2 => exact am_isNaN _
  rintro _ rfl -
  try dsimp only
  refine AL.z ?_
  apply AL.nil
  try simp only [nd, setL, V.cs, nz, Nat.reduceAdd, nm, ns]
  apply AW.sr
  refine AL.z ?_
  refine AL.call (post := ?pc3) rfl (sm_call (args := [_]) ?hc3 ⟨Tryd.func56, rfl, rfl, rfl, rfl⟩ rfl rfl rfl rfl) ?_
  case hc3 => exact am_isNaN _
  rintro _ rfl -
  try dsimp only
  refine AL.z ?_
  apply AL.nil
  try simp only [nd, setL, V.cs, nz, Nat.reduceAdd, nm, ns]
  apply AW.seq
  apply AW.sr
  refine AL.z ?_
  apply AL.nil
  try simp only [nd]
  refine AW.condF rfl ?_
  apply AW.skip
  try simp only [thenS]
  apply AW.seq
  apply AW.sr
  refine AL.z ?_
  apply AL.nil
  try simp only [nd]
  refine AW.condF rfl ?_
  apply AW.skip
  try simp only [thenS]
  apply AW.seq
  apply AW.sr
  iterate 3 refine AL.z ?_
  apply AL.nil
  try simp only [nd]
  refine AW.condF rfl ?_
  apply AW.skip
  try simp only [thenS]
  apply AW.seq
  apply AW.sr
  iterate 3 refine AL.z ?_
  apply AL.nil
  try simp only [nd]
  refine AW.condT rfl ?_
  apply AW.sr
  refine AL.z ?_
  apply AL.nil
  try simp only [nd]
  apply AW.ret
  exact ⟨[_], ⟨rfl, trivial⟩, by simp [tupOf, cmpI, h1, h2], by simp [tupOf, V.pure, V.has]⟩
 skip
 apply AW.sr
 refine AL.z ?_
 apply AL.nil
 try simp only [thenS, S.put, enum, List.nil_append, List.cons_append, List.append_nil, Nat.zero_add, Nat.reduceAdd]
 apply AW.sr
 refine AL.z ?_
 refine AL.call (post := ?pc4) rfl (sm_call (args := [_]) ?hc4 ⟨Tryd.func56, rfl, rfl, rfl, rfl⟩ rfl rfl rfl rfl) ?_
 case hc4 => exact am_isNaN _
 rintro _ rfl -
 try dsimp only
 refine AL.z ?_
 apply AL.nil
 try simp only [nd, setL, V.cs, nz, Nat.reduceAdd, nm, ns]
 apply AW.sr
 refine AL.z ?_
 refine AL.call (post := ?pc5) rfl (sm_call (args := [_]) ?hc5 ⟨Tryd.func56, rfl, rfl, rfl, rfl⟩ rfl rfl rfl rfl) ?_
 case hc5 => exact am_isNaN _
 rintro _ rfl -
 try dsimp only
 refine AL.z ?_
 apply AL.nil
 try simp only [nd, setL, V.cs, nz, Nat.reduceAdd, nm, ns]
 apply AW.seq
 apply AW.sr
 refine AL.z ?_
 apply AL.nil
 try simp only [nd]
 refine AW.condF rfl ?_
 apply AW.skip
 try simp only [thenS]
 apply AW.seq
 apply AW.sr
 refine AL.z ?_
 apply AL.nil
 try simp only [nd]
 refine AW.condF rfl ?_
 apply AW.skip
 try simp only [thenS]
 apply AW.seq
 apply AW.sr
 iterate 3 refine AL.z ?_
 apply AL.nil
 try simp only [nd]
 refine AW.condF rfl ?_
 apply AW.skip
 try simp only [thenS]
 apply AW.seq
 apply AW.sr
 iterate 3 refine AL.z ?_
 apply AL.nil
 try simp only [nd]
 refine AW.condF rfl ?_
 apply AW.skip
 try simp only [thenS]
 apply AW.sr
 refine AL.z ?_
 apply AL.nil
 try simp only [nd]
 apply AW.ret
 exact ⟨[_], ⟨rfl, trivial⟩, by simp [tupOf, cmpI, h1, h2], by simp [tupOf, V.pure, V.has]⟩
theorem am_Or (l : List Int) : Fn Tryd.prog 14 [.d (intsD l)] (fun v => v = .i (orI l)) := by
 refine Fn.sl 0 rfl fun hb => ?_
 obtain ⟨len, hn⟩ : ∃ n, l.length = n := ⟨_, rfl⟩
 rw [List.length_map, hn] at hb
 refine Fn.intro (n := 18) ⟨Tryd.func14, rfl, rfl, rfl, rfl⟩ zT8 zT14 fun w0 out => ?_
 apply AW.sr
 refine AL.z ?_
 apply AL.nil
 try simp only [thenS, S.put, enum, List.nil_append, List.cons_append, List.append_nil, Nat.zero_add, Nat.reduceAdd]
 apply AW.sr
 refine AL.z ?_
 apply AL.nil
 try simp only [nd]
 apply AW.seq
 apply AW.sr
 iterate 3 refine AL.z ?_
 apply AL.nil
 try simp only [nd]
 apply AW.block
 refine AW.loop (fun s' => ∃ k : Nat, k ≤ len ∧ orI (l.drop k) = orI l ∧ s' = ⟨18, [(3, .i 0), (6, .d (intsD l)), (7, .i len), (8, .i k)], [], []⟩) (fun s' => len - s'.nat 8) ⟨_, ?_, 0, by omega, by simp, rfl⟩ ?_
 ·exact Less.a0
 rintro s' ⟨k, hk, hor, rfl⟩
 by_cases hlt : k < len
 ·obtain ⟨x, hx⟩ := get_lt hn hlt
  by_cases h0 : x = 0
  ·skip
   apply AW.sr
   refine AL.z ?_
   apply AL.nil
   try simp only [nd]
   apply AW.seq
   refine AW.condT rfl ?_
   apply AW.skip
   try simp only [thenS]
   apply AW.seq
   apply AW.block
   apply AW.sr
   iterate 3 refine AL.z ?_
   apply AL.nil
   try simp only [nd]
   apply AW.sr
   iterate 3 refine AL.z ?_
   apply AL.nil
   try simp only [nd]
   refine AW.condF rfl ?_
   apply AW.skip
   try simp only [thenS]
   apply AW.region
   iterate 2 refine AL.z ?_
   apply AL.nil
   try simp only [nd]
   refine ⟨_, ?_, ⟨k + 1, by omega, by rw [← orI_step hx h0]; exact hor, rfl⟩, ?_⟩
   ·exact Less.a0
   simp [S.nat, fnd]; omega
  have hE := orI_hit hx h0
  rw [hor] at hE
  apply AW.sr
  refine AL.z ?_
  apply AL.nil
  try simp only [nd]
  apply AW.seq
  refine AW.condT rfl ?_
  apply AW.skip
  try simp only [thenS]
  apply AW.seq
  apply AW.block
  apply AW.sr
  iterate 3 refine AL.z ?_
  apply AL.nil
  try simp only [nd]
  apply AW.sr
  iterate 3 refine AL.z ?_
  apply AL.nil
  try simp only [nd]
  refine AW.condT rfl ?_
  apply AW.sr
  iterate 2 refine AL.z ?_
  apply AL.nil
  try simp only [nd]
  apply AW.ret
  exact ⟨[_], ⟨rfl, trivial⟩, by rw [hE]; rfl, by simp [tupOf, V.pure, V.has]⟩
 have hE := orI_end (l := l) (k := k) zT13
 rw [hor] at hE
 apply AW.sr
 refine AL.z ?_
 apply AL.nil
 try simp only [nd]
 apply AW.seq
 refine AW.condF rfl ?_
 refine AW.exit ?_
 try simp only [thenS, inBlockS, ↓reduceIte, Nat.reduceEqDiff]
 apply AW.sr
 iterate 2 refine AL.z ?_
 apply AL.nil
 try simp only [nd]
 apply AW.ret
 exact ⟨[_], ⟨rfl, trivial⟩, by rw [hE]; rfl, by simp [tupOf, V.pure, V.has]⟩
section
variable {K : Type} [DecidableEq K]
def mfind : List (K × Int) → K → Nat → Option (Nat × Int)
  | [], _, _ => none
  | (k, v) :: l, a, i => if a = k then some (i, v) else mfind l a (i + 1)
def mget (l : List (K × Int)) (a : K) : Option Int := (mfind l a 0).map (·.2)
def mput (l : List (K × Int)) (a : K) (v : Int) : List (K × Int) := match mfind l a 0 with
  | some (i, _) => l.set i (a, v)
  | none => l ++ [(a, v)]
theorem mfind_shift (a : K) : ∀ (l : List (K × Int)) (i : Nat), mfind l a i = (mfind l a 0).map fun x => (x.1 + i, x.2)
  | [], i => rfl
  | (k, v) :: l, i => by
    simp only [mfind]
    split
    · simp
    rw [mfind_shift a l (i + 1), mfind_shift a l (0 + 1), Option.map_map]
    congr 1
    funext x
    simp [Function.comp]; omega
theorem mfind_some {a : K} : ∀ {l : List (K × Int)} {i : Nat} {v : Int}, mfind l a 0 = some (i, v) → l[i]? = some (a, v)
  | [], i, v, h => by simp [mfind] at h
  | (k, u) :: l, i, v, h => by
    simp only [mfind] at h
    split at h
    · rename_i e
      simp only [Option.some.injEq, Prod.mk.injEq] at h
      obtain ⟨rfl, rfl⟩ := h
      simp [e]
    rw [mfind_shift] at h
    cases h1 : mfind l a 0 with
    | none => rw [h1] at h; cases h
    | some x =>
      rw [h1] at h
      simp only [Option.map_some, Option.some.injEq, Prod.mk.injEq] at h
      obtain ⟨rfl, rfl⟩ := h
      have := mfind_some (v := x.2) (i := x.1) h1
      simpa using this
theorem mget_none {a : K} : ∀ {l : List (K × Int)}, mget l a = none ↔ ∀ x ∈ l, x.1 ≠ a
  | [] => by simp [mget, mfind]
  | (k, u) :: l => by
    have ih := mget_none (a := a) (l := l)
    simp only [mget] at ih ⊢
    simp only [mfind]
    split
    · rename_i e; simp [e]
    rename_i e
    rw [mfind_shift]
    simp only [Option.map_map, Option.map_eq_none_iff] at ih ⊢
    rw [ih]
    simp [Ne.symm e]
theorem mget_cons (k : K) (u : Int) (l : List (K × Int)) (a : K) : mget ((k, u) :: l) a = if a = k then some u else mget l a := by
  simp only [mget, mfind]
  split
  · rfl
  rw [mfind_shift, Option.map_map]; rfl
theorem mget_snoc {l : List (K × Int)} {k : K} {u : Int} (a : K) : mget (l ++ [(k, u)]) a = match mget l a with
  | some v => some v
  | none => if a = k then some u else none := by
  induction l with
  | nil => simp [mget_cons]; simp [mget, mfind]
  | cons x l ih =>
    obtain ⟨k', u'⟩ := x
    rw [List.cons_append, mget_cons, mget_cons, ih]
    split <;> rfl
theorem mput_new {l : List (K × Int)} {a : K} {v : Int} (h : mget l a = none) : mput l a v = l ++ [(a, v)] := by
  unfold mput
  have : mfind l a 0 = none := by simpa [mget] using h
  rw [this]
end
def mrows {K : Type} (enc : K → Value) (l : List (K × Int)) : List (Value × Value) := l.map fun x => (enc x.1, .int .i64 x.2)
/-- How keys are held against each other. -/
structure KeyOk {K : Type} [DecidableEq K] (P : Program) (k : TypeId) (enc : K → Value) : Prop where
  check : ∀ (b : Bool) (a : K) (w : World), (Instr.checkKey b 10000 k (enc a)).run P w = .ok () w
  find : ∀ (l : List (K × Int)) (a : K) (w : World), (Instr.findKey k (enc a) (ments (mrows enc l)).toList).run P w = .ok ((mfind l a 0).map fun x => (x.1, .int .i64 x.2)) w
  same : ∀ a, Instr.sameBits 10000 (enc a) (enc a) = true
theorem run_getMap {P : Program} {w : World} {r : Nat} {es : Array MapEntry} {k : Nat} (hb : w.heap[r]? = some (.map es k)) : (getObj r).run P w = .ok (.map es k) w := by simp [getObj, Sem.run, hb]
theorem run_setMap {P : Program} {w : World} {r : Nat} {es : Array MapEntry} {k : Nat} (o : Obj) (hb : w.heap[r]? = some (.map es k)) : (setObj r o).run P w = .ok () { w with heap := w.heap.setIfInBounds r o } := by simp [setObj, Sem.run, hb]
theorem findNow_int (kd : IntKind) (a : Int) : ∀ (l : List (Int × Int)) (i j : Nat), Instr.findNow (.int kd) (.int .i64 a) ((((l.map fun x => ((Value.int .i64 x.1, Value.int .i64 x.2) : Value × Value)).zipIdx j).map fun x => ({ key := x.1.1, val := x.1.2, born := x.2 } : MapEntry))) i = some ((mfind l a i).map fun x => (x.1, .int .i64 x.2))
  | [], i, j => rfl
  | (k, v) :: l, i, j => by
    simp only [List.map_cons, List.zipIdx_cons, Instr.findNow, Instr.sameNow, if_true, mfind]
    by_cases e : a = k
    · subst e; simp
    have : (a == k) = false := by simpa using e
    simp only [this, if_neg e]
    exact findNow_int kd a l (i + 1) (j + 1)
theorem KeyOk.int {P : Program} {k : TypeId} {kd : IntKind} (hu : P.underlying k = some (.int kd)) : KeyOk P k (fun a : Int => .int .i64 a) := by
  refine ⟨fun b a w => ?_, fun l a w => ?_, fun a => ?_⟩
  · have : ∀ n : Nat, (Instr.checkKey b (n + 1) k (.int .i64 a)).run P w = .ok () w := fun n => by simp [Instr.checkKey, run_underlying hu]
    exact this 9999
  · have := findNow_int kd a l 0 0
    simp only [Instr.findKey, Sem.run_bind, run_underlying hu, Result.andThen_ok, ments, mrows, List.toList_toArray, this]
    rfl
  have : ∀ n : Nat, Instr.sameBits n (.int .i64 a) (.int .i64 a) = true := fun n => by cases n <;> simp [Instr.sameBits]
  exact this 10000
theorem ments_push (l : List (Value × Value)) (k v : Value) : (ments l).push { key := k, val := v, born := l.length } = ments (l ++ [(k, v)]) := by
  simp [ments, List.zipIdx_append]
theorem ments_size (l : List (Value × Value)) : (ments l).size = l.length := by simp [ments]
theorem ments_get (l : List (Value × Value)) (i : Nat) : (ments l)[i]? = l[i]?.map fun x => { key := x.1, val := x.2, born := i } := by
  simp [ments, List.getElem?_zipIdx]
  cases l[i]? <;> rfl
theorem ments_modify (l : List (Value × Value)) (i : Nat) (k v : Value) (k0 v0 : Value) (h : l[i]? = some (k0, v0)) : (ments l).modify i (fun e => { e with key := k, val := v }) = ments (l.set i (k, v)) := by
  apply Array.ext_getElem?
  intro j
  rw [Array.getElem?_modify, ments_get, ments_get, List.getElem?_set]
  have hi := (List.getElem?_eq_some_iff.1 h).1
  by_cases e : i = j
  · subst e; simp [h, hi]
  simp [e]
mutual
/-- Does a value speak of a map? -/
def D.mps : D → Bool
  | .p _ => false
  | .sl _ _ rows => D.mpsR rows
  | .mp _ => true
  | .mm _ => true
def D.mpsL : List D → Bool
  | [] => false
  | d :: l => D.mps d || D.mpsL l
def D.mpsR : List (List D) → Bool
  | [] => false
  | r :: l => D.mpsL r || D.mpsR l
end
mutual
def V.mps : V → Bool
  | .d x => D.mps x
  | .ad l => D.mpsL l
  | .mp _ _ _ => true
  | .mq _ _ _ => true
  | .ifc _ v => V.mps v
  | .mp2 _ _ _ _ _ _ => true
  | .it _ _ _ _ => true
  | .mit _ _ _ _ _ => true
  | .mm _ _ _ => true
  | .blk _ _ _ => true
  | .agg l => V.mpsL l
  | .tup l => V.mpsL l
  | .fn _ l => V.mpsL l
  | _ => false
def V.mpsL : List V → Bool
  | [] => false
  | v :: l => V.mps v || V.mpsL l
end
theorem D.mpsL_false {l : List D} (h : D.mpsL l = false) : ∀ d ∈ l, D.mps d = false := by
  induction l with
  | nil => simp
  | cons x l ih =>
    simp only [D.mpsL, Bool.or_eq_false_iff] at h
    intro d hd
    rcases List.mem_cons.1 hd with rfl | hd
    · exact h.1
    exact ih h.2 d hd
theorem D.mpsR_false {l : List (List D)} (h : D.mpsR l = false) : ∀ d ∈ l, D.mpsL d = false := by
  induction l with
  | nil => simp
  | cons x l ih =>
    simp only [D.mpsR, Bool.or_eq_false_iff] at h
    intro d hd
    rcases List.mem_cons.1 hd with rfl | hd
    · exact h.1
    exact ih h.2 d hd
theorem V.mpsL_false {l : List V} : V.mpsL l = false ↔ ∀ d ∈ l, V.mps d = false := by
  induction l with
  | nil => simp [V.mpsL]
  | cons x l ih => simp [V.mpsL, ih]
/-- The map r now holds l; of other maps nothing is said. -/
def upM (r : Nat) (l : List (Value × Value)) : V → V
  | .mp k N _ => if k = r then .mp k N l else .junk
  | v => if v.mps then .junk else v
section
variable {c : Cx} {s : S} {o : Oper} {g : Nat → Nat × Nat} {a : Act} {w : World} {Q : Exit → S → Prop}
theorem DRep.nomap {w w' : World} {q : Nat → Prop} {x : D} {v : Value} (h : DRep w q x v) (hsz : w.heap.size ≤ w'.heap.size) (hc : ∀ (b o : Nat) (u : Value), w.cell? ⟨b, o, none⟩ = some u → w'.cell? ⟨b, o, none⟩ = some u) : x.mps = false → DRep w' q x v := by
  induction h with
  | p x => exact fun _ => .p x
  | sl sz bt rows a cap b o f hcp ha hl h1 hr ih =>
    intro hm
    simp only [D.mps] at hm
    refine .sl sz bt rows a cap b o f hcp (fun hne => ?_) hl (fun i j row u h2 h3 => hc _ _ _ (h1 i j row u h2 h3)) fun i j row u h2 h3 => ih i j row u h2 h3 (D.mpsL_false (D.mpsR_false hm row (List.mem_of_getElem? h2)) u (List.mem_of_getElem? h3))
    obtain ⟨e1, e2, e3⟩ := ha hne
    exact ⟨e1, e2, Nat.lt_of_lt_of_le e3 hsz⟩
  | mp l b hb hm => exact fun h => by simp [D.mps] at h
  | mm => exact fun h => by simp [D.mps] at h
theorem VRep.nomap {w w' : World} {q : Nat → Prop} {g : Nat → Nat × Nat} {x : V} {v : Value} (h : VRep w q g x v) (hsz : w.heap.size ≤ w'.heap.size) (hc : ∀ (b o : Nat) (u : Value), w.cell? ⟨b, o, none⟩ = some u → w'.cell? ⟨b, o, none⟩ = some u) : x.mps = false → VRep w' q g x v := by
  induction h with
  | d x v h => exact fun hm => .d x v (h.nomap hsz hc hm)
  | ad row b o f hb h1 hr => exact fun hm => .ad row b o f ⟨hb.1, Nat.lt_of_lt_of_le hb.2 hsz⟩ (fun j u hu => hc _ _ _ (h1 j u hu)) (fun j u hu => (hr j u hu).nomap hsz hc (D.mpsL_false hm u (List.mem_of_getElem? hu)))
  | ref r o => exact fun _ => .ref r o
  | own r sz n hn hcap => exact fun _ => .own r sz n hn hcap
  | ownNil r sz => exact fun _ => .ownNil r sz
  | que r sz o n a cap hn hcap h => exact fun _ => .que r sz o n a cap hn hcap h
  | agg l cs hlen h ih => exact fun hm => .agg l cs hlen fun j u c h1 h2 => ih j u c h1 h2 (V.mpsL_false.1 hm u (List.mem_of_getElem? h1))
  | tup l cs hlen h ih => exact fun hm => .tup l cs hlen fun j u c h1 h2 => ih j u c h1 h2 (V.mpsL_false.1 hm u (List.mem_of_getElem? h1))
  | fn f l cs hlen h ih => exact fun hm => .fn f l cs hlen fun j u c h1 h2 => ih j u c h1 h2 (V.mpsL_false.1 hm u (List.mem_of_getElem? h1))
  | mp r N l hN hm => exact fun h => by simp [V.mps] at h
  | mq => exact fun h => by simp [V.mps] at h
  | mp2 => exact fun h => by simp [V.mps] at h
  | it => exact fun h => by simp [V.mps] at h
  | mit => exact fun h => by simp [V.mps] at h
  | mm => exact fun h => by simp [V.mps] at h
  | blk => exact fun h => by simp [V.mps] at h
  | ifc t v x h ih => exact fun hm => .ifc t v x (ih (by simpa [V.mps] using hm))
  | junk v => exact fun _ => .junk v
/-- A map is written to. -/
theorem Sim.upMap (hs : Sim c g s a w) {r : Nat} {l l' : List (Value × Value)} (hb : w.heap[(g r).1]? = some (.map (ments l) l.length)) (hN : c.w0.heap.size ≤ (g r).1) (hH : ∀ k row, fnd s.H k = some row → V.mpsL row.cells = false) (hK : V.mpsL s.K = false) :
    Sim c g ⟨s.n, s.T.map (fun x => (x.1, upM r l' x.2)), s.H, s.K⟩ a { w with heap := w.heap.setIfInBounds (g r).1 (.map (ments l') l'.length) } := by
  have hlt : (g r).1 < w.heap.size := (Array.getElem?_eq_some_iff.1 hb).1
  obtain ⟨w', hw'⟩ : ∃ w', w' = { w with heap := w.heap.setIfInBounds (g r).1 (.map (ments l') l'.length) } := ⟨_, rfl⟩
  have hsz : w'.heap.size = w.heap.size := by rw [hw']; simp
  have hoth : ∀ b, b ≠ (g r).1 → w'.heap[b]? = w.heap[b]? := fun b hne => by rw [hw']; simp [Array.getElem?_setIfInBounds_ne (Ne.symm hne)]
  have hnew : w'.heap[(g r).1]? = some (.map (ments l') l'.length) := by rw [hw']; simp [hlt]
  have hc : ∀ (b o : Nat) (u : Value), w.cell? ⟨b, o, none⟩ = some u → w'.cell? ⟨b, o, none⟩ = some u := by
    intro b o u h
    by_cases e : b = (g r).1
    · subst e
      simp [World.cell?, hb] at h
    exact (World.cell?_of_block (w := w) (a := ⟨b, o, none⟩) (hoth b e)).trans h
  have hm : ∀ {v x}, v.mps = false → VRep w (qt c s.H g) g v x → VRep w' (qt c s.H g) g v x := fun hv h => h.nomap zT13 hc hv
  rw [← hw']
  refine ⟨hs.size, hs.defers, ?_, hs.nul, ?_, ?_, hs.inj, hs.base, hs.low, ?_⟩
  · intro i v hv
    simp only at hv
    rw [fnd_map] at hv
    cases hu : fnd s.T i with
    | none => rw [hu] at hv; cases hv
    | some u =>
      rw [hu] at hv
      simp only [Option.map_some, Option.some.injEq] at hv
      obtain ⟨x, h1, h2⟩ := hs.tmp i u hu
      refine ⟨x, h1, ?_⟩
      subst hv
      have hgen : ∀ u : V, VRep w (qt c s.H g) g u x → VRep w' (qt c s.H g) g (if u.mps then .junk else u) x := by
        intro u h2
        split
        · exact .junk _
        rename_i hne; exact hm (by simpa using hne) h2
      cases u with
      | mp k N l0 =>
        simp only [upM]
        split
        · rename_i e
          subst e
          cases h2 with
          | mp _ _ _ h3 h4 => exact .mp _ _ _ h3 hnew
        exact .junk _
      | d _ => exact hgen _ h2
      | ad _ => exact hgen _ h2
      | ref _ _ => exact hgen _ h2
      | own _ _ _ _ => exact hgen _ h2
      | que _ _ _ _ => exact hgen _ h2
      | agg _ => exact hgen _ h2
      | tup _ => exact hgen _ h2
      | fn _ _ => exact hgen _ h2
      | mq _ _ _ => exact hgen _ h2
      | ifc _ _ => exact hgen _ h2
      | mp2 _ _ _ _ _ _ => exact hgen _ h2
      | it _ _ _ _ => exact hgen _ h2
      | mit _ _ _ _ _ => exact hgen _ h2
      | mm _ _ _ => exact hgen _ h2
      | blk _ _ _ => exact hgen _ h2
      | junk => exact .junk _
  · intro k row hk hn
    obtain ⟨arr, h1, h2, h3⟩ := hs.obj k row hk hn
    refine ⟨arr, (hoth _ fun e => ?_).trans h1, h2, fun j v hv => ?_⟩
    · rw [e, hb] at h1; cases h1
    obtain ⟨x, h4, h5⟩ := h3 j v hv
    exact ⟨x, h4, hm (V.mpsL_false.1 (hH k row hk) v (List.mem_of_getElem? hv)) h5⟩
  · intro j v x h1 h2
    exact hm (V.mpsL_false.1 hK v (List.mem_of_getElem? h1)) (hs.keep j v x h1 h2)
  refine hs.below.trans ⟨by rw [hw'], by rw [hw'], by rw [hw'], by omega, fun k hk => hoth k ?_⟩
  omega
/-- A name that nothing speaks of may stand for anything. -/
theorem Sim.regauge (h : Sim c g s a w) {r : Nat} (hr : s.clean r = true) (p : Nat × Nat) : Sim c (fun k => if k = r then p else g k) s a w := by
  have hfr : ∀ k row', fnd s.H k = some row' → k ≠ r := fun k row' hk => (S.clean_obj hr hk).1
  have hg : ∀ k row', fnd s.H k = some row' → (if k = r then p else g k) = g k := fun k row' hk => if_neg (hfr k row' hk)
  have hq : ∀ b, qt c s.H g b → b < w.heap.size → qt c s.H (fun k => if k = r then p else g k) b := fun b hb _ => ⟨hb.1, fun k row' hk hn => by show (if k = r then p else g k).1 ≠ b; rw [hg k row' hk]; exact hb.2 k row' hk hn⟩
  have hm : ∀ v x, v.has r = false → VRep w (qt c s.H g) g v x → VRep w (qt c s.H (fun k => if k = r then p else g k)) (fun k => if k = r then p else g k) v x := fun v x hv hx => hx.mono Cells.rfl hq fun k hk => by
    have e : k ≠ r := by rintro rfl; rw [hv] at hk; cases hk
    simp [e]
  refine ⟨h.size, h.defers, ?_, h.nul, ?_, ?_, ?_, ?_, h.low, h.below⟩
  · intro i v hv
    obtain ⟨x, h1, h2⟩ := h.tmp i v hv
    exact ⟨x, h1, hm v x (S.clean_tmp hr hv) h2⟩
  · intro k row' hk hn
    obtain ⟨arr, h1, hz, h2⟩ := h.obj k row' hk hn
    simp only [hg k row' hk]
    refine ⟨arr, h1, hz, fun j v hv => ?_⟩
    obtain ⟨x, h3, h4⟩ := h2 j v hv
    exact ⟨x, h3, hm v x ((S.clean_obj hr hk).2 v (List.mem_of_getElem? hv)) h4⟩
  · intro j v x h1 h2
    exact hm v x (S.clean_keep hr h1) (h.keep j v x h1 h2)
  · intro k k' row1 row2 h1 n1 h2 n2 h3
    simp only [hg k row1 h1, hg k' row2 h2] at h3
    exact h.inj k k' _ _ h1 n1 h2 n2 h3
  intro k row' hk hn
  simp only [hg k row' hk]
  exact h.base k _ hk hn
theorem sm_makeMap (r : Nat) {t : TypeId} (ho : o.op = .makeMap t none) (hr : s.clean r = true) (hd : dok s o = true) : StepM c o s (fun s' => s' = s.put o.dst (.mp r c.w0.heap.size [])) := by
  intro g a w hs K Q hK
  have hb : Below w.heap.size w (w.alloc (.map #[] 0)) := (Below.refl _ _).alloc (Nat.le_refl _) _
  have h1 := (hs.move hb).regauge hr (w.heap.size, 0)
  unfold Oper.wp
  have hexec : (execOp a.eval o).run c.P w = .ok (.value (.map (some w.heap.size))) (w.alloc (.map #[] 0)) := by
    simp [execOp, ho, Instr.makeMap]
  rw [hexec]
  refine hK _ _ _ _ rfl (h1.put o.dst (dok_spec hd) ?_) hb
  have := VRep.mp (w := w.alloc (.map #[] 0)) (q := qt c s.H (fun k => if k = r then (w.heap.size, 0) else g k)) (g := fun k => if k = r then (w.heap.size, 0) else g k) r c.w0.heap.size [] (by simp; exact hs.below.size) (by simp only [if_true]; exact heap_alloc_new w _)
  simpa using this
section
variable {K : Type} [DecidableEq K] {enc : K → Value}
theorem run_lookup {P : Program} {t k e : TypeId} {bt b : Nat} {l : List (K × Int)} {key : K} {ok : Bool} {w : World} (hk : KeyOk P k enc) (hu : P.underlying t = some (.map k e)) (hi : Inf P e 1 bt (.int .i64 0)) (hb : w.heap[b]? = some (.map (ments (mrows enc l)) (mrows enc l).length)) :
    (Instr.lookup t (.map (some b)) (enc key) ok).run P w = .ok (if ok then .tuple #[.int .i64 ((mget l key).getD 0), .bool (mget l key).isSome] else .int .i64 ((mget l key).getD 0)) w := by
  simp only [Instr.lookup, Sem.run_bind, run_underlying hu, Result.andThen_ok, run_getMap hb, Sem.run_pure, hk.check, hk.find]
  unfold mget
  cases h : mfind l key 0 with
  | none => cases ok <;> simp [run_zeroValue hi]
  | some x => cases ok <;> simp
theorem rd_lookup {t k e : TypeId} {bt : Nat} {x y : Operand} {ok : Bool} {r N : Nat} {l : List (K × Int)} {key : K} {v : V} (hk : KeyOk c.P k enc) (hu : c.P.underlying t = some (.map k e)) (hi : Inf c.P e 1 bt (.int .i64 0)) (ho : o.op = .lookup t x y ok) (hx : s.ev x = some (.mp r N (mrows enc l)) ∨ s.ev x = some (.d (.mp (mrows enc l)))) (hy : ∀ g a w, Sim c g s a w → a.eval y = enc key)
    (hv : v = if ok then .tup [.i ((mget l key).getD 0), .b (mget l key).isSome] else .i ((mget l key).getD 0)) : RD c o s v := fun g a w hs => by
  have hx' : ∃ b, a.eval x = .map (some b) ∧ w.heap[b]? = some (.map (ments (mrows enc l)) (mrows enc l).length) := by
    rcases hx with hx | hx
    · have h := hs.ev hx
      generalize a.eval x = u at h
      cases h with
      | mp _ _ _ hN hm => exact ⟨_, rfl, hm⟩
    have h := hs.ev hx
    generalize a.eval x = u at h
    cases h with
    | d _ _ h =>
      cases h with
      | mp _ b hq hm => exact ⟨b, rfl, hm⟩
  obtain ⟨b, hxe, hm⟩ := hx'
  subst hv
  refine ⟨if ok then .tuple #[.int .i64 ((mget l key).getD 0), .bool (mget l key).isSome] else .int .i64 ((mget l key).getD 0), ?_, fun w' hb => ?_⟩
  · cases ok
    · exact .d _ _ (.p _)
    refine .tup [.i ((mget l key).getD 0), .b (mget l key).isSome] [.int .i64 ((mget l key).getD 0), .bool (mget l key).isSome] rfl fun j u z hu hz => ?_
    match j, hu, hz with
    | 0, hu, hz => simp at hu hz; subst hu hz; exact .d _ _ (.p _)
    | 1, hu, hz => simp at hu hz; subst hu hz; exact .d _ _ (.p _)
    | n + 2, hu, hz => simp at hu
  have := run_lookup (ok := ok) (key := key) hk hu hi ((hb.block _ (Array.getElem?_eq_some_iff.1 hm).1).trans hm)
  simp only [execOp, ho, hxe, hy g a w hs, Sem.run_bind, this, Result.andThen_ok]
  rfl
end
section
variable {K : Type} [DecidableEq K] {enc : K → Value}
end
end
section
variable (r : Nat) (l : List (Value × Value))
theorem upM_p (x : Value) : upM r l (.d (.p x)) = .d (.p x) := rfl
theorem upM_sl (sz bt : Nat) (rows : List (List D)) (h : D.mpsR rows = false) : upM r l (.d (.sl sz bt rows)) = .d (.sl sz bt rows) := by simp [upM, V.mps, D.mps, h]
theorem upM_ref (a b : Nat) : upM r l (.ref a b) = .ref a b := rfl
theorem upM_own (a b n : Nat) (z : Bool) : upM r l (.own a b n z) = .own a b n z := rfl
theorem upM_mp (N : Nat) (l0 : List (Value × Value)) : upM r l (.mp r N l0) = .mp r N l := by simp [upM]
theorem upM_junk : upM r l .junk = .junk := rfl
theorem upM_tup (x : Value) (y : Value) : upM r l (.tup [.d (.p x), .d (.p y)]) = .tup [.d (.p x), .d (.p y)] := rfl
theorem mpsR_map {α : Type} (f : α → List D) (hf : ∀ x, D.mpsL (f x) = false) : ∀ l : List α, D.mpsR (l.map f) = false
  | [] => rfl
  | x :: l => by rw [List.map_cons, D.mpsR, hf x, mpsR_map f hf l]; rfl
theorem mpsL_flat {α : Type} (f : α → List V) (hf : ∀ x, V.mpsL (f x) = false) : ∀ l : List α, V.mpsL (l.flatMap f) = false
  | [] => rfl
  | x :: l => by
    rw [List.flatMap_cons, V.mpsL_false]
    intro v hv
    rcases List.mem_append.1 hv with h | h
    · exact V.mpsL_false.1 (hf x) v h
    exact V.mpsL_false.1 (mpsL_flat f hf l) v h
theorem mpsR_ars (l : List Ar) : D.mpsR (l.map arD) = false := mpsR_map _ (fun _ => rfl) l
theorem mpsR_sts (l : List St) : D.mpsR (l.map stD) = false := mpsR_map _ (fun x => by simp [stD, D.mpsL, D.mps, mpsR_ars]) l
end
section
variable {c : Cx} {s : S} {Q : Exit → S → Prop} {ops : Array Oper} {L : List Oper} {need : Nat → Bool} {l : List (Nat × Nat)} {i : Nat} {o : Oper} {T : (Nat → Nat × Nat) → World → Prop}
/-- With a relation of the region's own. -/
def AT (T : (Nat → Nat × Nat) → World → Prop) (c : Cx) (ops : Array Oper) (Q : Exit → S → Prop) (need : Nat → Bool) (l : List (Nat × Nat)) (s : S) : Prop := ∀ g a w, Sim c g s a w → ASeqF c.P ops (QQ c Q) (T g) need l a w
theorem AW.drawG {id : Nat} {l : List Oper} (T : (Nat → Nat × Nat) → World → Prop) (order : List (Nat × Nat)) (need : Nat → Bool) (N : Nat) (hm : c.P.follows .mixedOrders = true) (hsel : Region.noSelect l.toArray = true) (hlen : order.length = l.length)
    (hok : okF .any l.toArray need N order (Array.replicate l.length false) = true) (h : AT T c l.toArray Q need order s) : AW c (.region id l.toArray true) Q s := by
  intro g a w hs
  refine wp_region_any hm ?_
  have hs' : Sim c g s a w.drew := hs.move (Below.drew (Below.refl _ _))
  have := any_of_anyF _ _ _ _ (anyF_of (P := c.P) (Q := QQ c Q) (T := T g) (need := need) (md := .any) hsel order (Array.replicate l.length false) a w.drew (by
    intro j oj _ hl
    rw [Array.getD_eq_getD_getElem?, Array.getElem?_replicate] at hl
    split at hl <;> simp at hl) hok (h g a _ hs'))
  rw [hlen] at this
  simpa using this
theorem AT.rp {v : V} (hi : L[i]? = some o) (hg : o.guard = none) (hd : dok s o = true) (hp : noP Q) (h : RP c o s v) (hN : AT T c L.toArray Q need l (s.put o.dst v)) : AT T c L.toArray Q need ((i, 2) :: l) s := fun g a w hs => by
  obtain ⟨x, h1, h2⟩ := h g a w hs
  exact ⟨o, x, by simpa using hi, .inl ⟨by simp [Region.wanted, hg], fun w' _ => h2 w'⟩, QQ_noP hp _ _, hN g _ w (hs.put o.dst (dok_spec hd) h1)⟩
theorem AT.rd0T {v : V} (hi : L[i]? = some o) (hg : o.guard = none) (hd : dok s o = true) (h : RD c o s v) (hN : AT T c L.toArray Q need l (s.put o.dst v)) : AT T c L.toArray Q need ((i, 0) :: l) s := fun g a w hs => by
  obtain ⟨x, h1, h2⟩ := h g a w hs
  refine wpOp_of (by simpa using hi) hg ?_
  unfold Oper.wp
  rw [h2 w (Below.refl _ _)]
  exact ⟨fun _ h => h, hN g _ w (hs.put o.dst (dok_spec hd) h1)⟩
variable {K : Type} [DecidableEq K] {enc : K → Value}
/-- The entry of a key: its value v, the map l1 once the entry stands, its place j. -/
structure Ent (l : List (K × Int)) (key : K) (v : Int) (l1 : List (K × Int)) (j : Nat) : Prop where
  h : (mfind l key 0 = none ∧ v = 0 ∧ l1 = l ++ [(key, 0)] ∧ j = l.length) ∨ (mfind l key 0 = some (j, v) ∧ l1 = l)
theorem Ent.ex (l : List (K × Int)) (key : K) : ∃ v l1 j, Ent l key v l1 j ∧ v = (mget l key).getD 0 ∧ j ≤ l.length := by
  unfold mget
  cases h : mfind l key 0 with
  | none => exact ⟨0, _, _, ⟨.inl ⟨h, rfl, rfl, rfl⟩⟩, rfl, Nat.le_refl _⟩
  | some x => exact ⟨x.2, l, x.1, ⟨.inr ⟨h, rfl⟩⟩, rfl, Nat.le_of_lt (List.getElem?_eq_some_iff.1 (mfind_some h)).1⟩
theorem Ent.get {l l1 : List (K × Int)} {key : K} {v : Int} {j : Nat} (h : Ent l key v l1 j) : (mget l key).getD 0 = v ∧ (mget l1 key).getD 0 = v ∧ l1[j]? = some (key, v) ∧ mput l key = fun u => l1.set j (key, u) := by
  rcases h.h with ⟨h1, rfl, rfl, rfl⟩ | ⟨h1, rfl⟩
  · have h0 : mget l key = none := by simp [mget, h1]
    refine ⟨by simp [h0], by rw [mget_snoc, h0]; simp, by simp, ?_⟩
    funext u
    rw [mput_new h0]
    simp
  have h0 : mget l1 key = some v := by simp [mget, h1]
  refine ⟨by simp [h0], by simp [h0], mfind_some h1, ?_⟩
  funext u
  unfold mput
  rw [h1]
def upS (r : Nat) (l : List (Value × Value)) (s : S) : S := ⟨s.n, s.T.map (fun x => (x.1, upM r l x.2)), s.H, s.K⟩
/-- The map of l, or that in which the entry stands. -/
def TM (enc : K → Value) (r : Nat) (l l1 : List (K × Int)) : (Nat → Nat × Nat) → World → Prop := fun g w => ∃ l', (l' = l ∨ l' = l1) ∧ w.heap[(g r).1]? = some (.map (ments (mrows enc l')) (mrows enc l').length)
theorem ments_find (l : List (Value × Value)) (i : Nat) (h : i < l.length) : (ments l).findIdx? (fun e => ((e.born : Nat) : Int) == (i : Int)) = some i := by
  rw [Array.findIdx?_eq_some_iff_getElem]
  have hs : i < (ments l).size := by rw [ments_size]; exact h
  have hb : ∀ k (hk : k < (ments l).size), ((ments l)[k]'hk).born = k := fun k hk => by
    have h1 := ments_get l k
    rw [Array.getElem?_eq_getElem hk] at h1
    have h2 : k < l.length := by rwa [ments_size] at hk
    rw [List.getElem?_eq_getElem h2, Option.map_some, Option.some.injEq] at h1
    rw [h1]
  refine ⟨hs, by rw [hb]; simp, fun k hk => ?_⟩
  rw [hb]
  simp; omega
theorem AT.incr {t k e : TypeId} {bt r N i2 i3 i4 i5 i6 j d3 d5 : Nat} {L1 : List (K × Int)} {l1 : List (K × Int)} {key : K} {v u : Int} {x y : Operand} {o2 o3 o4 o5 o6 : Oper}
    (hE : Ent L1 key v l1 j) (hk : KeyOk c.P k enc) (hu : c.P.underlying t = some (.map k e)) (hi : Inf c.P e 1 bt (.int .i64 0))
    (h2 : L[i2]? = some o2) (h3 : L[i3]? = some o3) (h4 : L[i4]? = some o4) (h5 : L[i5]? = some o5) (h6 : L[i6]? = some o6)
    (q2 : o2.op = .lookup t x y false) (q4 : o4.op = .mapEntry t x y) (q6 : o6.op = .entryStore t x (.tmp d5) (.tmp d3))
    (g2 : o2.guard = none) (g3 : o3.guard = none) (g4 : o4.guard = none) (g5 : o5.guard = none) (g6 : o6.guard = none) (e6 : o6.dst = none) (n6 : need i6 = false)
    (hp : noP Q) (hd2 : dok s o2 = true) (hx : s.ev x = some (.mp r N (mrows enc L1))) (hy : ∀ g a w, Sim c g s a w → a.eval y = enc key)
    (hd3 : dok (s.put o2.dst (.i v)) o3 = true) (r3 : RP c o3 (s.put o2.dst (.i v)) (.i u))
    (hd4 : dok ((s.put o2.dst (.i v)).put o3.dst (.i u)) o4 = true) (hx4 : ((s.put o2.dst (.i v)).put o3.dst (.i u)).ev x = some (.mp r N (mrows enc L1))) (hy4 : ∀ g a w, Sim c g ((s.put o2.dst (.i v)).put o3.dst (.i u)) a w → a.eval y = enc key)
    (hN : N = c.w0.heap.size) (hH : s.H.all (fun x => !V.mpsL x.2.cells) = true) (hK : V.mpsL s.K = false)
    (hd5 : dok (upS r (mrows enc l1) (((s.put o2.dst (.i v)).put o3.dst (.i u)).put o4.dst (.tup [.i v, .i j]))) o5 = true) (r5 : RP c o5 (upS r (mrows enc l1) (((s.put o2.dst (.i v)).put o3.dst (.i u)).put o4.dst (.tup [.i v, .i j]))) (.i j))
    (hx6 : ((upS r (mrows enc l1) (((s.put o2.dst (.i v)).put o3.dst (.i u)).put o4.dst (.tup [.i v, .i j]))).put o5.dst (.i j)).ev x = some (.mp r N (mrows enc l1)))
    (hs6 : ((upS r (mrows enc l1) (((s.put o2.dst (.i v)).put o3.dst (.i u)).put o4.dst (.tup [.i v, .i j]))).put o5.dst (.i j)).ev (.tmp d5) = some (.i j))
    (hv6 : ((upS r (mrows enc l1) (((s.put o2.dst (.i v)).put o3.dst (.i u)).put o4.dst (.tup [.i v, .i j]))).put o5.dst (.i j)).ev (.tmp d3) = some (.i u))
    (hQ : Q .normal (upS r (mrows enc (mput L1 key u)) ((upS r (mrows enc l1) (((s.put o2.dst (.i v)).put o3.dst (.i u)).put o4.dst (.tup [.i v, .i j]))).put o5.dst (.i j)))) :
    AT (TM enc r L1 l1) c L.toArray Q need [(i2, 1), (i3, 2), (i4, 0), (i5, 2), (i6, 0)] s := by
  subst hN
  obtain ⟨E1, E2, E3, E4⟩ := hE.get
  intro g a w hs
  have hmap : ∀ {s' : S} {l' : List (K × Int)} {a w}, Sim c g s' a w → s'.ev x = some (.mp r c.w0.heap.size (mrows enc l')) → a.eval x = .map (some (g r).1) ∧ c.w0.heap.size ≤ (g r).1 ∧ w.heap[(g r).1]? = some (.map (ments (mrows enc l')) (mrows enc l').length) := by
    intro s' l' a w hs hx
    have h := hs.ev hx
    generalize a.eval x = u at h
    cases h with
    | mp _ _ _ hN hm => exact ⟨rfl, hN, hm⟩
  obtain ⟨x1, x2, x3⟩ := hmap hs hx
  refine ⟨o2, .int .i64 v, by simpa using h2, .inl ⟨by simp [Region.wanted, g2], fun w' hT => ?_⟩, ⟨L1, .inl rfl, x3⟩, QQ_noP hp _ _, ?_⟩
  · obtain ⟨l', hl', hb⟩ := hT
    have := run_lookup (ok := false) (key := key) hk hu hi hb
    simp only [execOp, q2, x1, hy g a w hs, Sem.run_bind, this, Result.andThen_ok]
    rcases hl' with rfl | rfl
    · rw [E1]; rfl
    rw [E2]; rfl
  have hs2 := hs.put o2.dst (dok_spec hd2) (v := .i v) (x := .int .i64 v) (.d _ _ (.p _))
  obtain ⟨y3, z1, z2⟩ := r3 g _ w hs2
  obtain rfl : y3 = .int .i64 u := by cases z1 with | d _ _ h => cases h; rfl
  refine ⟨o3, .int .i64 u, by simpa using h3, .inl ⟨by simp [Region.wanted, g3], fun w' _ => z2 w'⟩, QQ_noP hp _ _, ?_⟩
  have hs3 := hs2.put o3.dst (dok_spec hd3) z1
  obtain ⟨u1, u2, u3⟩ := hmap hs3 hx4
  generalize hA : (Act.put (Act.put a o2.dst (.int .i64 v)) o3.dst (.int .i64 u)) = A at *
  have hrun : (Instr.mapEntry t (.map (some (g r).1)) (enc key)).run c.P w = .ok (.tuple #[.int .i64 v, goInt j]) { w with heap := w.heap.setIfInBounds (g r).1 (.map (ments (mrows enc l1)) (mrows enc l1).length) } := by
    simp only [Instr.mapEntry, Sem.run_bind, run_underlying hu, Result.andThen_ok, run_getMap u3, hk.check, hk.find]
    rcases hE.h with ⟨h1, rfl, rfl, rfl⟩ | ⟨h1, rfl⟩
    · simp only [h1, Option.map_none, run_zeroValue hi, Sem.run_bind, Result.andThen_ok, run_setMap _ u3, ments_push]
      simp [mrows]
    have hget : (mrows enc l1)[j]? = some (enc key, .int .i64 v) := by simp [mrows, mfind_some h1]
    have hk0 : (((ments (mrows enc l1))[j]?).map (·.key)).getD (enc key) = enc key := by rw [ments_get, hget]; rfl
    have hself : (ments (mrows enc l1)).modify j (fun e => { e with key := enc key }) = ments (mrows enc l1) := by
      apply Array.ext_getElem?
      intro i
      rw [Array.getElem?_modify]
      split
      · rename_i e
        subst e
        rw [ments_get, hget]; rfl
      rfl
    simp only [h1, Option.map_some, hk0, Instr.keyThatStays, hk.same, if_true, Sem.run_bind, Sem.run_pure, Result.andThen_ok, run_setMap _ u3, hself]
    rw [ments_get, hget]
    rfl
  refine wpOp_of (by simpa using h4) g4 ?_
  unfold Oper.wp
  have hexec : (execOp A.eval o4).run c.P w = .ok (.value (.tuple #[.int .i64 v, goInt j])) { w with heap := w.heap.setIfInBounds (g r).1 (.map (ments (mrows enc l1)) (mrows enc l1).length) } := by
    simp only [execOp, q4, u1, hy4 g A w hs3, Sem.run_bind, hrun, Result.andThen_ok]
    rfl
  rw [hexec]
  have htup : VRep w (qt c ((s.put o2.dst (.i v)).put o3.dst (.i u)).H g) g (.tup [.i v, .i j]) (.tuple #[.int .i64 v, goInt j]) := by
    refine .tup [.i v, .i j] [.int .i64 v, .int .i64 j] rfl fun n p z hp hz => ?_
    match n, hp, hz with
    | 0, hp, hz => simp at hp hz; subst hp hz; exact .d _ _ (.p _)
    | 1, hp, hz => simp at hp hz; subst hp hz; exact .d _ _ (.p _)
    | n + 2, hp, hz => simp at hp
  have hs4 := hs3.put o4.dst (dok_spec hd4) htup
  have hlt : (g r).1 < w.heap.size := (Array.getElem?_eq_some_iff.1 u3).1
  have hHall : ∀ k row, fnd s.H k = some row → V.mpsL row.cells = false := fun k row hk => by
    have := List.all_eq_true.1 hH _ (fnd_mem hk)
    simpa using this
  have hputH : ∀ (s : S) d v, (s.put d v).H = s.H := fun s d v => by cases d <;> rfl
  have hputK : ∀ (s : S) d v, (s.put d v).K = s.K := fun s d v => by cases d <;> rfl
  have hs4' := hs4.upMap (r := r) (l' := mrows enc l1) u3 u2 (fun k row hk => hHall k row (by simpa only [hputH] using hk)) (by simpa only [hputK] using hK)
  refine ⟨fun _ _ => ⟨l1, .inr rfl, by simp [hlt]⟩, ?_⟩
  obtain ⟨y5, k1, k2⟩ := r5 g _ _ hs4'
  obtain rfl : y5 = .int .i64 j := by cases k1 with | d _ _ h => cases h; rfl
  refine ⟨o5, .int .i64 j, by simpa using h5, .inl ⟨by simp [Region.wanted, g5], fun w' _ => k2 w'⟩, QQ_noP hp _ _, ?_⟩
  have hs5 := hs4'.put o5.dst (dok_spec hd5) k1
  obtain ⟨m1, m2, m3⟩ := hmap hs5 hx6
  have m4 := VRep.p_eq (hs5.ev hs6)
  have m5 := VRep.p_eq (hs5.ev hv6)
  refine wpOp_of (by simpa using h6) g6 ?_
  unfold Oper.wp
  have hjl : j < (mrows enc l1).length := by rw [mrows, List.length_map]; exact (List.getElem?_eq_some_iff.1 E3).1
  have hgetj : (mrows enc l1)[j]? = some (enc key, .int .i64 v) := by simp [mrows, E3]
  have hmod : (ments (mrows enc l1)).modify j (fun e => { e with val := .int .i64 u }) = ments ((mrows enc l1).set j (enc key, .int .i64 u)) := by
    rw [← ments_modify _ _ (enc key) (.int .i64 u) _ _ hgetj]
    apply Array.ext_getElem?
    intro i
    rw [Array.getElem?_modify, Array.getElem?_modify]
    split
    · rename_i e
      subst e
      rw [ments_get, hgetj]; rfl
    rfl
  obtain ⟨A6, hA6⟩ : ∃ A6, A6 = Act.put (Act.put A o4.dst (.tuple #[.int .i64 v, goInt j])) o5.dst (.int .i64 j) := ⟨_, rfl⟩
  rw [← hA6] at m1 m4 m5 hs5 ⊢
  obtain ⟨W, hW⟩ : ∃ W, W = { w with heap := w.heap.setIfInBounds (g r).1 (.map (ments (mrows enc l1)) (mrows enc l1).length) } := ⟨_, rfl⟩
  rw [← hW] at m3 hs5 ⊢
  have hset : mrows enc (mput L1 key u) = (mrows enc l1).set j (enc key, .int .i64 u) := by rw [E4]; simp [mrows, List.map_set]
  have hexec6 : (execOp A6.eval o6).run c.P W = .ok .skip { W with heap := W.heap.setIfInBounds (g r).1 (.map (ments (mrows enc (mput L1 key u))) (mrows enc (mput L1 key u)).length) } := by
    simp only [execOp, q6, m1, m4, m5, Instr.entryStore, Sem.run_bind, run_getMap m3, Result.andThen_ok, asInt, asIntOf, goInt, Sem.run_pure, ments_find _ _ hjl, run_setMap _ m3, hmod, hset]
    simp
  rw [hexec6]
  simp only [Oper.upon, e6, Act.put]
  have hfin := hs5.upMap (r := r) (l' := mrows enc (mput L1 key u)) m3 m2 (fun k row hk => hHall k row (by simpa only [hputH, upS] using hk)) (by simpa only [hputK, upS] using hK)
  exact ⟨fun h => (by rw [n6] at h; cases h), ⟨g, _, hQ, hfin⟩⟩
end
def ordC (a b : Ar) : Int := orI [cmpI a.i b.i, cmpI a.o b.o, cmpI a.t b.t, cmpI a.w b.w]
def ahd (a b : Ar) : Bool := if a.i ≠ b.i then decide (a.i < b.i) else if a.o ≠ b.o then decide (a.o < b.o) else if a.t ≠ b.t then decide (a.t < b.t) else decide (a.w < b.w)
theorem ordC_neg (a b : Ar) : (ordC a b < 0) ↔ ahd a b = true := by
  unfold ordC ahd
  by_cases h1 : a.i = b.i
  · by_cases h2 : a.o = b.o
    · by_cases h3 : a.t = b.t
      · by_cases h4 : a.w = b.w
        · simp [orI, h1, h2, h3, h4, cmpI_self]
        simp [orI, h1, h2, h3, cmpI_self, cmpI_ne h4, cmpI_neg]
      simp [orI, h1, h2, cmpI_self, cmpI_ne h3, cmpI_neg, h3]
    simp [orI, h1, cmpI_self, cmpI_ne h2, cmpI_neg, h2]
  simp [orI, cmpI_ne h1, cmpI_neg, h1]
theorem ahd_iff {a b : Ar} : ahd a b = true ↔ a.i < b.i ∨ a.i = b.i ∧ (a.o < b.o ∨ a.o = b.o ∧ (a.t < b.t ∨ a.t = b.t ∧ a.w < b.w)) := by
  unfold ahd
  by_cases h1 : a.i = b.i
  · by_cases h2 : a.o = b.o
    · by_cases h3 : a.t = b.t
      · simp [h1, h2, h3]
      simp [h1, h2, h3]
    simp [h1, h2]
  simp [h1]
theorem ahd_trans {a b x : Ar} (h1 : ahd a b = false) (h2 : ahd b x = false) : ahd a x = false := by
  rw [Bool.eq_false_iff] at h1 h2 ⊢
  rw [ne_eq, ahd_iff] at h1 h2 ⊢
  omega
def arAt (l : List Ar) (k : Nat) : Ar := l.getD k ⟨0, 0, 0, 0⟩
theorem arAt_of {l : List Ar} {k : Nat} {a : Ar} (h : l[k]? = some a) : arAt l k = a := by simp [arAt, List.getD_eq_getElem?_getD, h]
/-- Pairs stand as they should, up to the k-th. -/
def srtN (l : List Ar) : Nat → Bool
  | 0 => true
  | k + 1 => srtN l k && (l.take k).all fun b => !ahd (arAt l k) b
def disN (l : List Ar) : Nat → Bool
  | 0 => true
  | k + 1 => disN l k && (l.take k).all fun b => !(decide ((arAt l k).i = b.i) && decide ((arAt l k).o = b.o))
/-- Neighbours stand as they should, from the k-th on. -/
def adjN (l : List Ar) : Nat → Bool
  | 0 => true
  | k + 1 => if k + 1 < l.length then (!ahd (arAt l (k + 1)) (arAt l k)) && adjN l k else adjN l k
theorem adj_all {l : List Ar} : ∀ {k : Nat}, adjN l k = true ↔ ∀ i, i < k → i + 1 < l.length → ahd (arAt l (i + 1)) (arAt l i) = false
  | 0 => by simp [adjN]
  | k + 1 => by
    have ih := adj_all (l := l) (k := k)
    simp only [adjN]
    constructor
    · intro h i hi hl
      by_cases e : i = k
      · subst e
        rw [if_pos hl] at h
        simp only [Bool.and_eq_true, Bool.not_eq_true'] at h
        exact h.1
      refine ih.1 ?_ i zT13 hl
      split at h
      · simp only [Bool.and_eq_true] at h; exact h.2
      exact h
    intro h
    have h2 := ih.2 fun i hi hl => h i zT13 hl
    split
    · rename_i hl
      simp only [Bool.and_eq_true, Bool.not_eq_true']
      exact ⟨h k zT13 hl, h2⟩
    exact h2
theorem srt_all {l : List Ar} : ∀ {k : Nat}, k ≤ l.length → (srtN l k = true ↔ ∀ i j, j < i → i < k → ahd (arAt l i) (arAt l j) = false)
  | 0, _ => by simp [srtN]
  | k + 1, hk => by
    have ih := srt_all (l := l) (k := k) zT13
    simp only [srtN, Bool.and_eq_true, ih, List.all_eq_true, Bool.not_eq_true']
    constructor
    · rintro ⟨h1, h2⟩ i j hj hi
      by_cases e : i = k
      · subst e
        refine h2 _ ?_
        have hx : l[j]? = some l[j] := List.getElem?_eq_getElem zT13
        rw [arAt_of hx]
        exact List.mem_of_getElem? (i := j) (by rw [List.getElem?_take_of_lt hj]; exact hx)
      exact h1 i j hj zT13
    intro h
    refine ⟨fun i j hj hi => h i j hj zT13, fun b hb => ?_⟩
    obtain ⟨j, hj⟩ := List.getElem?_of_mem hb
    have hjl := (List.getElem?_eq_some_iff.1 hj).1
    simp at hjl
    rw [List.getElem?_take_of_lt zT13] at hj
    have := h k j zT13 zT13
    rwa [arAt_of hj] at this
theorem adj_srt (l : List Ar) : adjN l l.length = srtN l l.length := by
  rw [Bool.eq_iff_iff, adj_all, srt_all (Nat.le_refl _)]
  constructor
  · intro h i
    induction i with
    | zero => intro j hj; omega
    | succ i ih =>
      intro j hj hi
      by_cases e : j = i
      · subst e; exact h j zT13 hi
      exact ahd_trans (h i zT13 hi) (ih j zT13 zT13)
  intro h i hi hl
  exact h (i + 1) i zT13 hl
theorem adj_end {l : List Ar} : ∀ {k : Nat}, l.length ≤ k + 1 → adjN l k = adjN l (l.length - 1)
  | 0, h => by rw [show l.length - 1 = 0 by omega]
  | k + 1, h => by
    by_cases e : k + 1 = l.length - 1
    · rw [e]
    simp only [adjN, if_neg (show ¬ k + 1 < l.length by omega)]
    exact adj_end zT13
def cntP (p : Int × Int) (l : List Ar) : Nat := (l.filter fun a => decide ((a.i, a.o) = p)).length
theorem cntP_snoc {l : List Ar} {i : Nat} {a : Ar} (h : l[i]? = some a) (p : Int × Int) : cntP p (l.take (i + 1)) = cntP p (l.take i) + if p = (a.i, a.o) then 1 else 0 := by
  rw [take_snoc h]
  unfold cntP
  by_cases e : (a.i, a.o) = p
  · simp [e]
  simp [e, Ne.symm e]
theorem cntP_le (p : Int × Int) (l : List Ar) : cntP p l ≤ l.length := List.length_filter_le _ _
theorem cntP_zero {a : Ar} {l : List Ar} : decide (cntP (a.i, a.o) l = 0) = l.all fun b => !(decide (a.i = b.i) && decide (a.o = b.o)) := by
  rw [Bool.eq_iff_iff, decide_eq_true_iff, List.all_eq_true]
  unfold cntP
  rw [List.length_eq_zero_iff, List.filter_eq_nil_iff]
  constructor
  · intro h b hb
    have := h b hb
    simp only [decide_eq_true_eq, Prod.mk.injEq] at this
    simp only [Bool.not_eq_true', Bool.and_eq_false_iff, decide_eq_false_iff_not]
    by_cases e : a.i = b.i
    · exact .inr fun e2 => this ⟨e.symm, e2.symm⟩
    exact .inl e
  intro h b hb
  have := h b hb
  simp only [decide_eq_true_eq, Prod.mk.injEq]
  rintro ⟨e1, e2⟩
  simp [e1, e2] at this
section
variable {K : Type} [DecidableEq K]
theorem mput_cons (k : K) (u : Int) (l : List (K × Int)) (a : K) (v : Int) : mput ((k, u) :: l) a v = if a = k then (a, v) :: l else (k, u) :: mput l a v := by
  unfold mput
  simp only [mfind]
  by_cases e : a = k
  · simp [e]
  rw [if_neg e, if_neg e, mfind_shift]
  cases mfind l a 0 <;> simp
theorem mget_mput (a : K) (v : Int) (b : K) : ∀ l : List (K × Int), mget (mput l a v) b = if b = a then some v else mget l b
  | [] => by
    have : mput ([] : List (K × Int)) a v = [(a, v)] := rfl
    rw [this, mget_cons]
  | (k, u) :: l => by
    rw [mput_cons]
    by_cases e : a = k
    · subst e
      rw [if_pos rfl, mget_cons, mget_cons]
      split <;> rfl
    rw [if_neg e, mget_cons, mget_mput a v b l, mget_cons]
    by_cases e2 : b = k
    · subst e2
      rw [if_pos rfl, if_neg (Ne.symm e), if_pos rfl]
    rw [if_neg e2, if_neg e2]
theorem mput_len (a : K) (v : Int) : ∀ l : List (K × Int), (mput l a v).length ≤ l.length + 1
  | [] => by simp [mput, mfind]
  | (k, u) :: l => by
    rw [mput_cons]
    have := mput_len a v l
    split <;> simp
    omega
end
/-- The map tells how often each pair has been seen. -/
structure Seen (M : List ((Int × Int) × Int)) (l : List Ar) : Prop where
  cnt : ∀ p, (mget M p).getD 0 = (cntP p l : Int)
  len : M.length ≤ l.length
theorem Seen.nil : Seen [] [] := ⟨fun p => rfl, Nat.le_refl _⟩
theorem Seen.step {M : List ((Int × Int) × Int)} {l : List Ar} {i : Nat} {a : Ar} (h : Seen M (l.take i)) (ha : l[i]? = some a) : Seen (mput M (a.i, a.o) ((cntP (a.i, a.o) (l.take i) : Int) + 1)) (l.take (i + 1)) := by
  refine ⟨fun p => ?_, ?_⟩
  · rw [mget_mput, cntP_snoc ha]
    by_cases e : p = (a.i, a.o)
    · subst e; simp
    rw [if_neg e, if_neg e, h.cnt p]; simp
  have h1 := mput_len (a.i, a.o) ((cntP (a.i, a.o) (l.take i) : Int) + 1) M
  have h2 := h.len
  have h3 := (List.getElem?_eq_some_iff.1 ha).1
  rw [List.length_take] at h2 ⊢
  omega
def fA (a : Ar) : Bool := decide (a.i = a.o)
def fF (a : Ar) : Bool := !(decide (a.i = 0) && decide (a.o = 0))
def fW (a : Ar) : Bool := decide (a.w = 0)
def fP (x : Int) : Bool := decide (x = 0) || decide (x = 1000000001)
def bA (sts : List St) : Bool := sts.all fun s => s.arcs.all fA
def bFl (sts : List St) : Bool := sts.all fun s => s.arcs.all fF
def bPl (sts : List St) : Bool := sts.all fun s => fP s.fin && s.arcs.all fW
def bSo (sts : List St) : Bool := sts.all fun s => srtN s.arcs s.arcs.length
def bDi (sts : List St) : Bool := sts.all fun s => disN s.arcs s.arcs.length
theorem all_snoc {α : Type} {l : List α} {i : Nat} {a : α} (f : α → Bool) (h : l[i]? = some a) : (l.take (i + 1)).all f = ((l.take i).all f && f a) := by rw [take_snoc h]; simp [List.all_append]
theorem dis_snoc {l : List Ar} {i : Nat} {a : Ar} (h : l[i]? = some a) : disN l (i + 1) = (disN l i && decide (cntP (a.i, a.o) (l.take i) = 0)) := by
  rw [cntP_zero]
  simp only [disN, arAt_of h]
theorem ahd_asym {a b : Ar} (h : ahd a b = true) : ahd b a = false := by
  rw [Bool.eq_false_iff, ne_eq, ahd_iff]
  rw [ahd_iff] at h
  omega
/-- An order without ties. -/
structure Tot (lt : Ar → Ar → Bool) : Prop where
  irr : ∀ a, lt a a = false
  tr : ∀ a b x, lt a b = false → lt b x = false → lt a x = false
  one : ∀ a b, lt a b = false → lt b a = false → a = b
  asy : ∀ a b, lt a b = true → lt b a = false
abbrev Sd (lt : Ar → Ar → Bool) (l : List Ar) : Prop := l.Pairwise fun x y => lt y x = false
/-- An arc put where it belongs. -/
def plc (a : Ar) : List Ar → List Ar
  | [] => [a]
  | x :: l => if ahd a x = true then a :: x :: l else x :: plc a l
theorem plc_perm (a : Ar) : ∀ l : List Ar, (plc a l).Perm (a :: l)
  | [] => List.Perm.refl _
  | x :: l => by
    unfold plc
    split
    · exact List.Perm.refl _
    exact (List.Perm.cons x (plc_perm a l)).trans (List.Perm.swap a x l)
theorem plc_sd (a : Ar) : ∀ {l : List Ar}, Sd ahd l → Sd ahd (plc a l)
  | [], _ => by simp [plc]
  | x :: l, h => by
    have h1 := List.pairwise_cons.1 h
    unfold plc
    split
    · rename_i hx
      refine List.pairwise_cons.2 ⟨fun y hy => ?_, h⟩
      rcases List.mem_cons.1 hy with rfl | hy
      · exact ahd_asym hx
      exact ahd_trans (h1.1 y hy) (ahd_asym hx)
    rename_i hx
    refine List.pairwise_cons.2 ⟨fun y hy => ?_, plc_sd a h1.2⟩
    rcases List.mem_cons.1 ((plc_perm a l).mem_iff.1 hy) with rfl | hy
    · simpa using hx
    exact h1.1 y hy
theorem plc_lt {a : Ar} {B : List Ar} : ∀ {A : List Ar}, (∃ y ∈ A, ahd a y = true) → plc a (A ++ B) = plc a A ++ B
  | [], h => by obtain ⟨y, hy, _⟩ := h; cases hy
  | x :: A, h => by
    simp only [List.cons_append, plc]
    split
    · simp
    rename_i hx
    obtain ⟨y, hy, hlt⟩ := h
    rcases List.mem_cons.1 hy with rfl | hy
    · exact absurd hlt hx
    rw [plc_lt ⟨y, hy, hlt⟩]; simp
theorem plc_ge {a : Ar} {B : List Ar} : ∀ {A : List Ar}, (∀ y ∈ A, ¬ ahd a y = true) → plc a (A ++ B) = A ++ plc a B
  | [], _ => rfl
  | x :: A, h => by
    simp only [List.cons_append, plc]
    rw [if_neg (h x zT14), plc_ge fun y hy => h y (by simp [hy])]
theorem plc_len (a : Ar) (l : List Ar) : (plc a l).length = l.length + 1 := by
  have := (plc_perm a l).length_eq
  simpa using this
def inO (l : List Ar) : List Ar := l.foldl (fun out a => plc a out) []
theorem inO_snoc {l : List Ar} {i : Nat} {a : Ar} (h : l[i]? = some a) : inO (l.take (i + 1)) = plc a (inO (l.take i)) := by rw [take_snoc h]; simp [inO]
theorem inO_both (l : List Ar) : ∀ out : List Ar, Sd ahd out → Sd ahd (l.foldl (fun out a => plc a out) out) ∧ (l.foldl (fun out a => plc a out) out).Perm (l ++ out) := by
  induction l with
  | nil => intro out h; exact ⟨h, List.Perm.refl _⟩
  | cons a l ih =>
    intro out h
    obtain ⟨h1, h2⟩ := ih (plc a out) (plc_sd a h)
    refine ⟨h1, h2.trans ?_⟩
    exact (List.Perm.append_left l (plc_perm a out)).trans List.perm_middle
theorem inO_sd (l : List Ar) : Sd ahd (inO l) := (inO_both l [] List.Pairwise.nil).1
theorem inO_perm (l : List Ar) : (inO l).Perm l := by
  have := (inO_both l [] List.Pairwise.nil).2
  rwa [List.append_nil] at this
theorem inO_len (l : List Ar) : (inO l).length = l.length := (inO_perm l).length_eq
where
  lstA : Ar → List Ar → List Ar
  | _, [] => []
  | p, b :: l => if b.i = p.i ∧ b.o = p.o ∧ b.t = p.t then lstA b l else b :: lstA b l
end Go.Proofs.YthiknkcigcglkaaDoor
