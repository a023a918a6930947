/- Part 11 of what the law LeastMakes rests on. -/
import Derived.Test.YthiknkcigcglkaaGreatDoorPkLe1
import Derived.Test.YthiknkcigcglkaaGreatDoorPkLe2
import Derived.Test.YthiknkcigcglkaaGreatDoorPkLe3
import Derived.Test.YthiknkcigcglkaaGreatDoorPkLe4
import Derived.Test.YthiknkcigcglkaaGreatDoorPkLe5
import Derived.Test.YthiknkcigcglkaaGreatDoorPkLe6
import Derived.Test.YthiknkcigcglkaaGreatDoorPkLe7
import Derived.Test.YthiknkcigcglkaaGreatDoorPkLe8
import Derived.Test.YthiknkcigcglkaaGreatDoorPkLe9
import Derived.Test.YthiknkcigcglkaaGreatDoorPkLe10
namespace Go.Proofs.YthiknkcigcglkaaGreatDoor
open Go.RowKit
set_option linter.unusedSimpArgs false
set_option linter.unusedVariables false
set_option maxRecDepth 100000
set_option maxHeartbeats 8000000
theorem am_Ahead0 (m : Mach) : Fn Tryz.prog 71 [mV m] (fun v => (machE m ≠ 0 ∧ v = .tup [.nil, .i (machE m)]) ∨ (machE m = 0 ∧ v = .tup [.d (boolsD (aheadL m)), .i (machE m)])) := by
 refine Fn.mach m 0 rfl fun hb hal => ?_
 by_cases h0 : machE m = 0
 ·have hA : aheadL m = rchL (aInit m) (aEdge m) m.states.length := by unfold aheadL; rw [if_pos h0]
  have hin := a_in h0
  obtain ⟨h60, h400, hst, hz⟩ := machE_zero h0
  obtain ⟨st, sts⟩ := m
  simp only at h60 h400 hst hz hb hal hA hin
  obtain ⟨n, hn⟩ : ∃ n, sts.length = n := ⟨_, rfl⟩
  rw [hn] at h60 hst hz hb hA hin
  refine Fn.intro (n := 25) ⟨Tryz.func71, rfl, rfl, rfl, rfl⟩ zT8 zT16 fun w0 out => ?_
  apply AW.sr
  refine AL.sm rfl (sm_box 1 rfl rfl rfl rfl rfl) ?_
  iterate 2 refine AL.z ?_
  apply AL.nil
  try simp only [nd, setL, V.cs, nz, Nat.reduceAdd, nm, ns, enum]
  apply AW.seq
  apply AW.sr
  refine AL.z ?_
  refine AL.call (post := ?pc26) rfl (sm_call (args := [_]) ?hc26 ⟨Tryz.func27, rfl, rfl, rfl, rfl⟩ rfl rfl rfl rfl) ?_
  case hc26 => exact Fn.eqi (am_Check ⟨st, sts⟩) h0
  rintro _ rfl -
  try dsimp only
  refine AL.z ?_
  apply AL.nil
  try simp only [nd, setL, V.cs, nz, Nat.reduceAdd, nm, ns]
  apply AW.sr
  iterate 2 refine AL.z ?_
  apply AL.nil
  try simp only [nd]
  refine AW.condF rfl ?_
  apply AW.skip
  try simp only [thenS]
  apply AW.sr
  refine AL.z ?_
  apply AL.nil
  try simp only [nd]
  refine AW.adopt 5 100 1 3 rfl (by simp [S.clean, V.has, V.hasL]) ?_
  refine AW.seqc (fun s' => ∃ F : List Nat, (∀ x, x ∈ F ↔ aInit ⟨st, sts⟩ x) ∧ F.length ≤ n ∧ s' = ⟨25, [(1, .ref 1 0), (5, .own 100 1 F.length (decide (F.length = 0)))], [(1, ⟨24, [.i st, .d (stsD sts)], false, 0⟩), (100, ⟨3, F.map V.n, decide (F.length = 0), 1⟩)], []⟩) ?_ ?_
  ·skip
   by_cases hs0 : 0 ≤ st
   ·obtain ⟨p, rfl⟩ : ∃ p : Nat, st = p := ⟨st.toNat, by omega⟩
    apply AW.sr
    iterate 3 refine AL.z ?_
    apply AL.nil
    try simp only [nd]
    refine AW.condT rfl ?_
    apply AW.region
    iterate 3 refine AL.z ?_
    refine AL.sm rfl (sm_slice (vs := [(0, _)]) (zs := [.d (.p (.int .i64 0))]) 17 Tryz.underlying42 inf3 rfl rfl zT14 zT14 zT14 rfl rfl rfl rfl rfl rfl rfl) ?_
    refine AL.st rfl (st_appendF Tryz.underlying42 inf3 rfl zT14 rfl rfl rfl rfl rfl rfl zT5 rfl rfl rfl rfl rfl rfl rfl rfl zT14 zT15 zT15 rfl) ?_
    simp only [S.forget, S.put, S.newObj, junkIf, V.has, V.hasL, nh, hasL_flat, hasL_append, List.map_cons, List.map_nil, List.filter_cons, List.filter_nil, Nat.reduceBNe, Nat.reduceBEq, eq_self, bne_self_eq_false,  Bool.not_true, Bool.not_false, Bool.or_false, Bool.or_true, Bool.false_or, Bool.true_or, if_true, if_false, Bool.false_eq_true, ite_true, ite_false, ↓reduceIte, beq_self_eq_true, Nat.reduceEqDiff]
    refine AL.z ?_
    apply AL.nil
    try simp only [nd, setL, V.cs, nz, Nat.reduceAdd, nm, ns]
    refine ⟨_, ?_, [p], ?_, ?_, rfl⟩
    ·exact Less.a0
    ·intro x
     simp [aInit, hn]
     omega
    simp; omega
   skip
   apply AW.sr
   iterate 3 refine AL.z ?_
   apply AL.nil
   try simp only [nd]
   refine AW.condF rfl ?_
   apply AW.skip
   try simp only [thenS]
   refine ⟨_, ?_, [], ?_, ?_, rfl⟩
   ·exact Less.a0
   ·intro x
    simp [aInit]
    omega
   simp
  rintro s' ⟨F, hF, hFn, rfl⟩
  obtain ⟨f, hf⟩ : ∃ f, decide (F.length = 0) = f := ⟨_, rfl⟩
  rw [hf]
  have hFf : f = true → F = [] := by intro h; subst h; simpa using hf
  apply AW.sr
  iterate 4 refine AL.z ?_
  refine AL.rp rfl rfl (rp_func (vs := [_]) rfl rfl) ?_
  refine AL.inline [] (ts := []) (ars := [_, _, _]) rfl rfl ⟨Tryz.func103, rfl, rfl, rfl, rfl⟩ rfl rfl rfl zT16 rfl fun kx => ?_
  try simp only [thenS, S.put, enum, List.nil_append, List.cons_append, List.append_nil, Nat.zero_add, Nat.reduceAdd]
  apply AW.sr
  refine AL.z ?_
  apply AL.nil
  try simp only [nd]
  apply AW.sr
  refine AL.z ?_
  refine AL.sm rfl (sm_make_map 13 V.b (false) Tryz.underlying51 inf4 rfl rfl rfl rfl rfl zT15 zT14 zT1 rfl) ?_
  refine AL.sm rfl (sm_alloc (l := [.d (.p (.slice none 0 0))]) 7 inf51 rfl zT1 rfl rfl) ?_
  (refine AL.st rfl (st_store inf51 rfl rfl rfl rfl rfl rfl rfl zT7 rfl) ?_)
  apply AL.nil
  try simp only [nd, setL, V.cs, nz, Nat.reduceAdd, nm, ns]
  apply AW.sr
  refine AL.z ?_
  refine AL.sm rfl (sm_alloc (l := [.d (.p (.slice none 0 0))]) 8 inf42 rfl zT1 rfl rfl) ?_
  (refine AL.st rfl (st_store inf42 rfl rfl rfl rfl rfl rfl rfl zT7 rfl) ?_)
  apply AL.nil
  try simp only [nd, setL, V.cs, nz, Nat.reduceAdd, nm, ns]
  apply AW.seq
  apply AW.sr
  iterate 3 refine AL.z ?_
  apply AL.nil
  try simp only [nd]
  apply AW.block
  refine AW.loop (fun s' => ∃ (k : Nat) (L : List Bool), k ≤ F.length ∧ L.length = n ∧ (∀ x, L[x]? = some true ↔ x ∈ F.take k) ∧ s' = ⟨44, [(2, .fn 104 [.ref 1 0]), (7, .ref 7 0), (8, .ref 8 0), (15, .own 100 1 F.length f), (16, .i F.length), (17, .i k)], [(1, ⟨24, [.i st, .d (stsD sts)], false, 0⟩), (100, ⟨3, F.map V.n, f, 1⟩), (7, ⟨51, [.own 13 1 n false], false, 0⟩), (8, ⟨42, [.own 100 1 F.length f], false, 0⟩), (13, ⟨4, L.map V.b, false, 1⟩)], []⟩) (fun s' => F.length - s'.nat 17) ⟨_, ?_, 0, List.replicate n false, by omega, by simp, by simp [List.getElem?_replicate], rfl⟩ ?_
  ·exact Less.a0
  rintro s' ⟨k, L, hk, hL, hLF, rfl⟩
  by_cases hlt : k < F.length
  ·obtain ⟨q, hq⟩ := get_lt rfl hlt
   obtain rfl : f = false := by cases f with | false => rfl | true => rw [hFf rfl] at hlt; simp at hlt
   have hqn : q < n := by have := ((hF q).1 (List.mem_of_getElem? hq)).2; simpa [hn] using this
   have hqL : q < L.length := by omega
   apply AW.sr
   refine AL.z ?_
   apply AL.nil
   try simp only [nd]
   apply AW.seq
   refine AW.condT rfl ?_
   apply AW.skip
   try simp only [thenS]
   apply AW.seq
   apply AW.block
   apply AW.sr
   iterate 3 refine AL.z ?_
   apply AL.nil
   try simp only [nd]
   apply AW.region
   iterate 3 refine AL.z ?_
   refine AL.st rfl (st_store_map2 inf4 rfl rfl rfl rfl rfl rfl rfl rfl zT9) ?_
   apply AL.nil
   try simp only [nd, setL, V.cs, nz, Nat.reduceAdd, nm, ns]
   apply AW.region
   iterate 2 refine AL.z ?_
   apply AL.nil
   try simp only [nd]
   refine ⟨_, ?_, ⟨k + 1, L.set q true, by omega, by simpa using hL, fun x => ?_, rfl⟩, ?_⟩
   ·exact Less.a0
   ·rw [List.getElem?_set, take_snoc hq, List.mem_append, ← hLF x]
    by_cases e : q = x
    ·subst e; simp [hqL]
    simp [e, Ne.symm e]
   simp [S.nat, fnd]; omega
  rw [List.take_of_length_le zT15] at hLF
  have hfld : Fld (aInit ⟨st, sts⟩) (aEdge ⟨st, sts⟩) n (fun _ => False) L F := Fld.start hL hLF (fun x hx => (hF x).1 hx)
  have hLi : ∀ x, aInit ⟨st, sts⟩ x → L[x]? = some true := fun x hx => (hLF x).2 ((hF x).2 hx)
  clear hLF
  apply AW.sr
  refine AL.z ?_
  apply AL.nil
  try simp only [nd]
  apply AW.seq
  refine AW.condF rfl ?_
  refine AW.exit ?_
  try simp only [thenS, inBlockS, ↓reduceIte, Nat.reduceEqDiff]
  apply AW.seq
  apply AW.block
  refine AW.loopN (fun μ s' => ∃ (L : List Bool) (todo : List Nat), μ ≤ 300 ∧ 2 * L.count false + todo.length ≤ μ ∧ (f = true → todo = []) ∧ Fld (aInit ⟨st, sts⟩) (aEdge ⟨st, sts⟩) n (fun _ => False) L todo ∧ (∀ x, aInit ⟨st, sts⟩ x → L[x]? = some true) ∧ s' = ⟨44, [(2, .fn 104 [.ref 1 0]), (7, .ref 7 0), (8, .ref 8 0)], [(1, ⟨24, [.i st, .d (stsD sts)], false, 0⟩), (100, ⟨3, todo.map V.n, f, 1⟩), (7, ⟨51, [.own 13 1 n false], false, 0⟩), (8, ⟨42, [.own 100 1 todo.length f], false, 0⟩), (13, ⟨4, L.map V.b, false, 1⟩)], []⟩) ⟨_, _, ?_, L, F, by have := List.count_le_length (l := L) (a := false); omega, Nat.le_refl _, hFf, hfld, hLi, rfl⟩ ?_
  ·exact Less.a0
  rintro μ s' ⟨L, todo, hμ3, hμ, hft, hfl, hLi, rfl⟩
  rcases List.eq_nil_or_concat todo with hnil | ⟨T, q, hTq⟩
  ·have hz0 : ¬ 0 < todo.length := by simp [hnil]
   have hL := hfl.done hnil (fun _ h => h) hLi hin
   apply AW.seq
   apply AW.sr
   iterate 3 refine AL.z ?_
   apply AL.nil
   try simp only [nd]
   refine AW.condF rfl ?_
   refine AW.exit ?_
   try simp only [thenS, inBlockS, ↓reduceIte, Nat.reduceEqDiff]
   apply AW.sr
   iterate 2 refine AL.z ?_
   apply AL.nil
   try simp only [nd]
   apply AW.ret
   try simp only [thenS, inBlockS, ↓reduceIte, Nat.reduceEqDiff]
   refine ⟨[_], ⟨rfl, trivial⟩, ?_⟩
   try simp only [S.put, tupOf, List.zip_cons_cons, List.zip_nil_left, List.drop_succ_cons, List.drop_zero, List.length_cons, List.length_nil, Nat.zero_add, Nat.reduceAdd]
   iterate 2 refine AL.z ?_
   apply AL.nil
   try simp only [nd]
   refine AW.freeze 2 1 (L.map fun b => [.p (.bool b)]) rfl rfl rfl (by rw [List.length_map, hfl.len]) zT15 (rows1 rfl) ?_
   apply AW.ret
   exact ⟨[_, _], ⟨rfl, rfl, trivial⟩, .inr ⟨h0, by rw [h0, hA, ← hL]; rfl⟩, by simp [tupOf, V.pure, V.has, V.hasL]⟩
  rw [List.concat_eq_append] at hTq
  subst hTq
  obtain rfl : f = false := by cases f with | false => rfl | true => simp at hft
  obtain ⟨t, ht⟩ : ∃ t, T.length = t := ⟨_, rfl⟩
  have hlen : (T ++ [q]).length = t + 1 := by simp [ht]
  rw [hlen] at hμ ⊢
  have hlast : (T ++ [q])[t]? = some q := by simp [← ht]
  obtain ⟨hqL, hfl⟩ := hfl.take
  have hqn : q < n := by have := (List.getElem?_eq_some_iff.1 hqL).1; rw [hfl.len] at this; exact this
  have hLs : L.length = n := hfl.len
  have hcf : L.count false ≤ n := by rw [← hLs]; exact List.count_le_length
  obtain ⟨x, hx⟩ := get_lt hn hqn
  obtain ⟨la, hla⟩ : ∃ n, x.arcs.length = n := ⟨_, rfl⟩
  have hla' := hal x (List.mem_of_getElem? hx)
  apply AW.seq
  apply AW.sr
  iterate 3 refine AL.z ?_
  apply AL.nil
  try simp only [nd]
  refine AW.condT rfl ?_
  apply AW.skip
  try simp only [thenS]
  apply AW.block
  apply AW.sr
  iterate 4 refine AL.z ?_
  refine AL.rp rfl rfl (rp_index_own (k := t) Tryz.underlying42 inf3 rfl rfl rfl zT15 zT15) ?_
  iterate 2 refine AL.z ?_
  apply AL.nil
  try simp only [nd]
  apply AW.sr
  iterate 4 refine AL.z ?_
  refine AL.rd rfl rfl (rp_slice_own (k := t) Tryz.underlying42 inf3 rfl rfl rfl zT15 zT15) ?_
  (refine AL.st rfl (st_store inf42 rfl rfl rfl rfl rfl rfl rfl zT7 rfl) ?_)
  apply AL.nil
  try simp only [nd, setL, V.cs, nz, Nat.reduceAdd, nm, ns]
  refine AW.cut 100 (T.map V.n) rfl ⟨[V.n q], by simp⟩ ?_
  apply AW.region
  iterate 2 refine AL.z ?_
  refine AL.rp rfl rfl (rp_func (vs := [_, _]) rfl rfl) ?_
  refine AL.inline [2, 7, 8] (ts := [_, _, _]) (ars := [_, _]) rfl rfl ⟨Tryz.func104, rfl, rfl, rfl, rfl⟩ rfl rfl rfl zT16 rfl fun kx => ?_
  try simp only [thenS, S.put, enum, List.nil_append, List.cons_append, List.append_nil, Nat.zero_add, Nat.reduceAdd]
  apply AW.sr
  iterate 8 refine AL.z ?_
  apply AL.nil
  try simp only [nd]
  apply AW.block
  refine AW.loop (fun s' => ∃ (i : Nat) (L : List Bool) (T : List Nat), i ≤ la ∧ 2 * L.count false + T.length < μ ∧ Fld (aInit ⟨st, sts⟩) (aEdge ⟨st, sts⟩) n (fun x => x = q) L T ∧ L[q]? = some true ∧ (∀ x, aInit ⟨st, sts⟩ x → L[x]? = some true) ∧ (∀ (j : Nat) (a : Ar) (p : Nat), j < i → x.arcs[j]? = some a → a.t = (p : Int) → L[p]? = some true) ∧ s' = ⟨23, [(1, .fn 122 [.ref 7 0, .ref 8 0]), (12, .d (arsD x.arcs)), (13, .i la), (14, .i i)], [(1, ⟨24, [.i st, .d (stsD sts)], false, 0⟩), (100, ⟨3, T.map V.n, false, 1⟩), (7, ⟨51, [.own 13 1 n false], false, 0⟩), (8, ⟨42, [.own 100 1 T.length false], false, 0⟩), (13, ⟨4, L.map V.b, false, 1⟩)], [.fn 104 [.ref 1 0], .ref 7 0, .ref 8 0]⟩) (fun s' => la - s'.nat 14) ⟨_, ?_, 0, L, T, by omega, by omega, hfl, hqL, hLi, fun j a p h => absurd h zT15, rfl⟩ ?_
  ·rw [ht]; exact Less.a0
  rintro s' ⟨i, L, T, hi, hμ', hfl, hqL, hLi, hdone, rfl⟩
  by_cases hil : i < la
  ·obtain ⟨y, hy⟩ := get_lt hla hil
   have hyt := (hz x (List.mem_of_getElem? hx)).2 y (List.mem_of_getElem? hy)
   obtain ⟨yi, yo, yw, yt⟩ := y
   simp only [arOk, decide_eq_true_eq] at hyt
   obtain ⟨p, rfl⟩ : ∃ p : Nat, yt = p := ⟨yt.toNat, by omega⟩
   have hpn : p < n := by omega
   have hLs : L.length = n := hfl.len
   obtain ⟨b, hb⟩ := get_lt hLs hpn
   have hpl : p < L.length := by omega
   have hedge : aEdge ⟨st, sts⟩ q p := ⟨x, _, hx, List.mem_of_getElem? hy, rfl⟩
   have hnew : ∀ L' : List Bool, (∀ z : Nat, L[z]? = some true → L'[z]? = some true) → L'[p]? = some true → ∀ (j : Nat) (a : Ar) (r : Nat), j < i + 1 → x.arcs[j]? = some a → a.t = (r : Int) → L'[r]? = some true := by
    intro L' h1 h2 j a r hj ha hr
    by_cases e : j = i
    ·subst e
     rw [hy] at ha
     simp only [Option.some.injEq] at ha
     subst ha
     simp only at hr
     obtain rfl : p = r := by omega
     exact h2
    exact h1 r (hdone j a r zT15 ha hr)
   apply AW.sr
   refine AL.z ?_
   apply AL.nil
   try simp only [nd]
   apply AW.seq
   refine AW.condT rfl ?_
   apply AW.skip
   try simp only [thenS]
   apply AW.seq
   apply AW.block
   apply AW.sr
   iterate 2 refine AL.z ?_
   refine AL.sm rfl (sm_alloc (l := [.d (.p (.int .i64 0)), .d (.p (.int .i64 0)), .d (.p (.int .i64 0)), .d (.p (.int .i64 0))]) 6 inf47 rfl zT1 rfl rfl) ?_
   refine AL.y ?_
   apply AL.nil
   try simp only [nd, setL, V.cs, nz, Nat.reduceAdd, nm, ns]
   apply AW.region
   iterate 3 refine AL.z ?_
   refine AL.inline [1, 12, 13, 14] (ts := [_, _, _, _]) (ars := [_]) rfl rfl ⟨Tryz.func122, rfl, rfl, rfl, rfl⟩ rfl rfl rfl zT16 rfl fun kx => ?_
   try simp only [thenS, S.put, enum, List.nil_append, List.cons_append, List.append_nil, Nat.zero_add, Nat.reduceAdd]
   apply AW.sr
   iterate 5 refine AL.z ?_
   apply AL.nil
   try simp only [nd]
   cases b with
   | true =>
    refine AW.condF rfl ?_
    apply AW.skip
    try simp only [thenS]
    refine ⟨[], trivial, ?_⟩
    try simp only [S.put, tupOf, List.zip_cons_cons, List.zip_nil_left, List.drop_succ_cons, List.drop_zero, List.length_cons, List.length_nil, Nat.zero_add, Nat.reduceAdd]
    apply AL.nil
    try simp only [nd]
    apply AW.region
    iterate 2 refine AL.z ?_
    apply AL.nil
    try simp only [nd]
    refine ⟨_, ?_, ⟨i + 1, L, T, by omega, hμ', hfl, hqL, hLi, hnew L (fun _ h => h) hb, rfl⟩, ?_⟩
    ·exact Less.a0
    simp [S.nat, fnd]; omega
   | false =>
    have hc := count_set L hb
    refine AW.condT rfl ?_
    apply AW.sr
    iterate 3 refine AL.z ?_
    refine AL.st rfl (st_store_map2 inf4 rfl rfl rfl rfl rfl rfl rfl rfl zT9) ?_
    apply AL.nil
    try simp only [nd, setL, V.cs, nz, Nat.reduceAdd, nm, ns]
    apply AW.region
    iterate 2 refine AL.z ?_
    refine AL.sm rfl (sm_slice (vs := [(0, _)]) (zs := [.d (.p (.int .i64 0))]) 14 Tryz.underlying42 inf3 rfl rfl zT14 zT14 zT14 rfl rfl rfl rfl zT1 rfl rfl) ?_
    refine AL.st rfl (st_appendF Tryz.underlying42 inf3 rfl zT14 rfl rfl rfl rfl rfl rfl zT5 zT1 rfl rfl rfl rfl rfl rfl rfl zT14 zT15 zT15 rfl) ?_
    simp only [S.forget, S.put, S.newObj, junkIf, V.has, V.hasL, nh, hasL_flat, hasL_append, List.map_cons, List.map_nil, List.filter_cons, List.filter_nil, Nat.reduceBNe, Nat.reduceBEq, eq_self, bne_self_eq_false,  Bool.not_true, Bool.not_false, Bool.or_false, Bool.or_true, Bool.false_or, Bool.true_or, if_true, if_false, Bool.false_eq_true, ite_true, ite_false, ↓reduceIte, beq_self_eq_true, Nat.reduceEqDiff]
    (refine AL.st rfl (st_store inf42 rfl rfl rfl rfl rfl rfl rfl zT7 rfl) ?_)
    apply AL.nil
    try simp only [nd, setL, V.cs, nz, Nat.reduceAdd, nm, ns]
    refine ⟨[], trivial, ?_⟩
    try simp only [S.put, tupOf, List.zip_cons_cons, List.zip_nil_left, List.drop_succ_cons, List.drop_zero, List.length_cons, List.length_nil, Nat.zero_add, Nat.reduceAdd]
    apply AL.nil
    try simp only [nd]
    apply AW.region
    iterate 2 refine AL.z ?_
    apply AL.nil
    try simp only [nd]
    refine ⟨_, ?_, ⟨i + 1, L.set p true, T ++ [p], by omega, by simp; omega, hfl.push hqL hedge hb, set_true_get hqL, fun z hz => set_true_get (hLi z hz), hnew _ (fun _ h => set_true_get h) (by rw [List.getElem?_set_self hpl]), rfl⟩, ?_⟩
    ·simp only [List.map_append, List.map_cons, List.map_nil, List.length_append, List.length_cons, List.length_nil, Nat.zero_add]
     exact Less.a0
    simp [S.nat, fnd]; omega
  skip
  apply AW.sr
  refine AL.z ?_
  apply AL.nil
  try simp only [nd]
  apply AW.seq
  refine AW.condF rfl ?_
  refine AW.exit ?_
  try simp only [thenS, inBlockS, ↓reduceIte, Nat.reduceEqDiff]
  refine ⟨[], trivial, ?_⟩
  try simp only [S.put, tupOf, List.zip_cons_cons, List.zip_nil_left, List.drop_succ_cons, List.drop_zero, List.length_cons, List.length_nil, Nat.zero_add, Nat.reduceAdd]
  apply AL.nil
  try simp only [nd]
  refine ⟨_, _, ?_, ⟨L, T, ?_, Nat.le_refl _, by simp, hfl.settle (fun p he hp => ?_), hLi, rfl⟩, hμ'⟩
  ·exact Less.a0
  ·omega
  obtain ⟨s, a, h4, h5, h6⟩ := he
  simp only at h4
  rw [hx] at h4
  simp only [Option.some.injEq] at h4
  subst h4
  obtain ⟨j, hj⟩ := List.getElem?_of_mem h5
  have hjl : j < la := by rw [← hla]; exact (List.getElem?_eq_some_iff.1 hj).1
  exact hdone j a p zT15 hj h6
 obtain ⟨st, sts⟩ := m
 obtain ⟨e, he⟩ : ∃ e, machE ⟨st, sts⟩ = e := ⟨_, rfl⟩
 rw [he] at h0 ⊢
 refine Fn.intro (n := 25) ⟨Tryz.func71, rfl, rfl, rfl, rfl⟩ zT8 zT16 fun w0 out => ?_
 apply AW.sr
 refine AL.sm rfl (sm_box 1 rfl rfl rfl rfl rfl) ?_
 iterate 2 refine AL.z ?_
 apply AL.nil
 try simp only [nd, setL, V.cs, nz, Nat.reduceAdd, nm, ns, enum]
 apply AW.seq
 apply AW.sr
 refine AL.z ?_
 refine AL.call (post := ?pc27) rfl (sm_call (args := [_]) ?hc27 ⟨Tryz.func27, rfl, rfl, rfl, rfl⟩ rfl rfl rfl rfl) ?_
 case hc27 => exact Fn.eqi (am_Check ⟨st, sts⟩) he
 rintro _ rfl -
 try dsimp only
 refine AL.z ?_
 apply AL.nil
 try simp only [nd, setL, V.cs, nz, Nat.reduceAdd, nm, ns]
 apply AW.sr
 iterate 2 refine AL.z ?_
 apply AL.nil
 try simp only [nd]
 refine AW.condT rfl ?_
 apply AW.sr
 iterate 3 refine AL.z ?_
 apply AL.nil
 try simp only [nd]
 apply AW.ret
 exact ⟨[_, _], ⟨rfl, rfl, trivial⟩, .inl ⟨h0, rfl⟩, by simp [tupOf, V.pure, V.has, V.hasL]⟩
theorem am_Ahead (m : Mach) : Fn Tryz.prog 71 [mV m] (fun v => v = .tup [.d (boolsD (aheadL m)), .i (machE m)]) := (am_Ahead0 m).wk (aheadL_wk m)
def FB : Fam (List Nat) := ⟨3, 1, 8, fun _ => [], fun l => l.map fun x : Nat => [.p (.int .i64 (x : Int))]⟩
def encBk (l : List Nat) : List D := [.sl 1 8 (l.map fun x : Nat => [.p (.int .i64 (x : Int))])]
theorem am_Back0 (m : Mach) : Fn Tryz.prog 72 [mV m] (fun v => (machE m ≠ 0 ∧ v = .tup [.nil, .i (machE m)]) ∨ (machE m = 0 ∧ v = .tup [.d (boolsD (backL m)), .i (machE m)])) := by
 refine Fn.mach m 0 rfl fun hb hal => ?_
 by_cases h0 : machE m = 0
 ·have hA : backL m = rchL (bInit m) (bEdge m) m.states.length := by unfold backL; rw [if_pos h0]
  have hin := b_in m
  obtain ⟨h60, h400, hst, hz⟩ := machE_zero h0
  obtain ⟨st, sts⟩ := m
  simp only at h60 h400 hst hz hb hal hA hin
  obtain ⟨n, hn⟩ : ∃ n, sts.length = n := ⟨_, rfl⟩
  rw [hn] at h60 hst hz hb hA hin
  have hal4 : ∀ x ∈ sts, x.arcs.length ≤ 400 := fun x hx => Nat.le_trans (arcN_mem sts x hx) h400
  refine Fn.intro (n := 62) ⟨Tryz.func72, rfl, rfl, rfl, rfl⟩ zT8 zT16 fun w0 out => ?_
  apply AW.sr
  refine AL.sm rfl (sm_box 1 rfl rfl rfl rfl rfl) ?_
  iterate 2 refine AL.z ?_
  apply AL.nil
  try simp only [nd, setL, V.cs, nz, Nat.reduceAdd, nm, ns, enum]
  apply AW.seq
  apply AW.sr
  refine AL.z ?_
  refine AL.call (post := ?pc0) rfl (sm_call (args := [_]) ?hc0 ⟨Tryz.func27, rfl, rfl, rfl, rfl⟩ rfl rfl rfl rfl) ?_
  case hc0 => exact Fn.eqi (am_Check ⟨st, sts⟩) h0
  rintro _ rfl -
  try dsimp only
  refine AL.z ?_
  apply AL.nil
  try simp only [nd, setL, V.cs, nz, Nat.reduceAdd, nm, ns]
  apply AW.sr
  iterate 2 refine AL.z ?_
  apply AL.nil
  try simp only [thenS, S.put, List.nil_append, List.cons_append]
  refine AW.condF rfl ?_
  apply AW.skip
  try simp only [thenS, List.nil_append, List.cons_append]
  apply AW.sr
  iterate 3 refine AL.z ?_
  refine AL.sm rfl (sm_make1 19 Tryz.underlying84 inf42 rfl rfl rfl rfl zT15 zT14 rfl rfl) ?_
  refine AL.sm rfl (sm_alloc (l := [.d (.p (.slice none 0 0))]) 5 inf84 rfl (by first | rfl | (simp only [S.clean, S.put, S.newObj, List.all_cons, objs_clean_low, Nat.reduceLT]; simp [S.forget, V.has, V.hasL, junkIf, setL, V.cs, hasL_i, hasL_b, hasL_s, hasL_n, hasL_rep, hasL_flat, hasL_append, cells_hasL_low, has_ownV, hasL_frep, nb1, nb2, nb3, nb4, -List.map_set]; try omega)) rfl rfl) ?_
  (refine AL.st rfl (st_store inf84 rfl rfl rfl rfl rfl rfl rfl zT7 rfl) ?_)
  apply AL.nil
  try simp only [nd, setL, V.cs, nz, Nat.reduceAdd, nm, ns]
  apply AW.sr
  refine AL.z ?_
  apply AL.nil
  try simp only [thenS, S.put, List.nil_append, List.cons_append]
  apply AW.seq
  apply AW.seq
  refine AW.adopt 6 100 1 3 rfl (by simp [S.clean, V.has, V.hasL]) ?_
  refine AW.famAdopt FB 1000 19 (List.replicate n []) rfl rfl (by rw [flatMap_rep]; simp [FB]) (by intro x hx; rw [List.eq_of_mem_replicate hx]; rfl) rfl ?_
  apply AW.region
  iterate 4 refine AL.z ?_
  apply AL.nil
  try simp only [thenS, S.put, List.nil_append, List.cons_append]
  apply AW.block
  refine AW.loop (fun s' => ∃ (k : Nat) (F : List Nat) (B : List (List Nat)), k ≤ n ∧ (∀ x, x ∈ F ↔ x < k ∧ bInit ⟨st, sts⟩ x) ∧ F.length ≤ k ∧ B.length = n ∧ (∀ (p : Nat) (l : List Nat), B[p]? = some l → l.length ≤ 1000 * k ∧ ∀ q, q ∈ l ↔ q < k ∧ bEdge ⟨st, sts⟩ p q) ∧
   s' = ⟨62, [(1, .ref 1 0), (5, .ref 5 0), (6, .own 100 1 F.length (decide (F.length = 0))), (21, .d (stsD sts)), (22, .i n), (23, .i k)], [(1, ⟨24, [.i st, .d (stsD sts)], false, 0⟩), (5, ⟨84, [.own 19 1 n false], false, 0⟩), (19, ⟨42, FB.cells 1000 B, false, 1⟩), (100, ⟨3, F.map V.n, decide (F.length = 0), 1⟩)] ++ FB.objs 1000 B, []⟩) (fun s' => n - s'.nat 23) ⟨_, ?_, 0, [], List.replicate n [], by omega, by simp, by simp, by simp, (fun p l h => by
    rw [List.getElem?_replicate] at h
    split at h
    ·simp at h; subst h; simp
    cases h), rfl⟩ ?_
  ·exact Less.a1
  rintro s' ⟨k, F, B, hk, hF, hFn, hBn, hB, rfl⟩
  by_cases hlk : k < n
  ·obtain ⟨x, hx⟩ := get_lt hn hlk
   obtain ⟨la, hla⟩ : ∃ n, x.arcs.length = n := ⟨_, rfl⟩
   have hla' := hal4 x (List.mem_of_getElem? hx)
   rw [hla] at hla'
   have hbI : bInit ⟨st, sts⟩ k ↔ x.fin ≠ 1000000001 := ⟨fun ⟨s, h1, h2⟩ => by simp only at h1; rw [hx] at h1; simp only [Option.some.injEq] at h1; subst h1; exact h2, fun h => ⟨x, hx, h⟩⟩
   apply AW.sr
   refine AL.z ?_
   apply AL.nil
   try simp only [thenS, S.put, List.nil_append, List.cons_append]
   apply AW.seq
   refine AW.condT rfl ?_
   apply AW.skip
   try simp only [thenS, List.nil_append, List.cons_append]
   apply AW.seq
   apply AW.block
   apply AW.sr
   iterate 3 refine AL.z ?_
   refine AL.sm rfl (sm_alloc (l := [.d (.p (.int .i64 0)), .d (.p (.slice none 0 0))]) 8 inf35 rfl (by first | rfl | (simp only [S.clean, S.put, S.newObj, List.all_cons, objs_clean_low, Nat.reduceLT]; simp [S.forget, V.has, V.hasL, junkIf, setL, V.cs, hasL_i, hasL_b, hasL_s, hasL_n, hasL_rep, hasL_flat, hasL_append, cells_hasL_low, has_ownV, hasL_frep, nb1, nb2, nb3, nb4, -List.map_set]; try omega)) rfl rfl) ?_
   refine AL.z ?_
   refine AL.y ?_
   apply AL.nil
   try simp only [nd, setL, V.cs, nz, Nat.reduceAdd, nm, ns]
   refine AW.seqc (fun s' => ∃ F : List Nat, (∀ x, x ∈ F ↔ x < k + 1 ∧ bInit ⟨st, sts⟩ x) ∧ F.length ≤ k + 1 ∧ s' = ⟨62, [(1, .ref 1 0), (5, .ref 5 0), (6, .own 100 1 F.length (decide (F.length = 0))), (7, .i k), (8, .ref 8 0), (21, .d (stsD sts)), (22, .i n), (23, .i k)], [(1, ⟨24, [.i st, .d (stsD sts)], false, 0⟩), (5, ⟨84, [.own 19 1 n false], false, 0⟩), (8, ⟨35, [.i x.fin, .d (arsD x.arcs)], false, 0⟩), (19, ⟨42, FB.cells 1000 B, false, 1⟩), (100, ⟨3, F.map V.n, decide (F.length = 0), 1⟩)] ++ FB.objs 1000 B, []⟩) ?_ ?_
   ·skip
    by_cases hfin : x.fin = 1000000001
    ·apply AW.seq
     apply AW.region
     iterate 3 refine AL.z ?_
     apply AL.nil
     try simp only [thenS, S.put, List.nil_append, List.cons_append]
     refine AW.condF rfl ?_
     apply AW.skip
     try simp only [thenS, List.nil_append, List.cons_append]
     refine ⟨_, ?_, F, fun y => ?_, by omega, rfl⟩
     ·exact Less.a1
     rw [hF y]
     constructor
     ·rintro ⟨h1, h2⟩; exact ⟨by omega, h2⟩
     rintro ⟨h1, h2⟩
     refine ⟨?_, h2⟩
     by_cases e : y = k
     ·subst e; exact absurd hfin (hbI.1 h2)
     omega
    skip
    apply AW.sr
    iterate 3 refine AL.z ?_
    apply AL.nil
    try simp only [thenS, S.put, List.nil_append, List.cons_append]
    refine AW.condT rfl ?_
    apply AW.region
    iterate 2 refine AL.z ?_
    refine AL.sm rfl (sm_slice (vs := [(0, _)]) (zs := [.d (.p (.int .i64 0))]) 33 Tryz.underlying42 inf3 rfl rfl zT14 zT14 zT14 rfl rfl rfl rfl (by first | rfl | (simp only [S.clean, S.put, S.newObj, List.all_cons, objs_clean_low, Nat.reduceLT]; simp [S.forget, V.has, V.hasL, junkIf, setL, V.cs, hasL_i, hasL_b, hasL_s, hasL_n, hasL_rep, hasL_flat, hasL_append, cells_hasL_low, has_ownV, hasL_frep, nb1, nb2, nb3, nb4, -List.map_set]; try omega)) rfl rfl) ?_
    refine AL.st rfl (st_appendF Tryz.underlying42 inf3 rfl zT14 rfl rfl rfl rfl rfl rfl zT5 (by first | rfl | (simp only [S.clean, S.put, S.newObj, List.all_cons, objs_clean_low, Nat.reduceLT]; simp [S.forget, V.has, V.hasL, junkIf, setL, V.cs, hasL_i, hasL_b, hasL_s, hasL_n, hasL_rep, hasL_flat, hasL_append, cells_hasL_low, has_ownV, hasL_frep, nb1, nb2, nb3, nb4, -List.map_set]; try omega)) rfl rfl rfl rfl rfl rfl rfl zT14 zT15 zT15 rfl) ?_
    simp only [objs_filter_low, Fam.objs_forget, cells_hasL_low, has_ownV, nb3, nb4, Nat.reduceLT, S.forget, S.put, S.newObj, junkIf, V.has, V.hasL, nh, hasL_flat, hasL_append, List.map_cons, List.map_nil, List.filter_cons, List.filter_nil, Nat.reduceBNe, Nat.reduceBEq, eq_self, bne_self_eq_false,  Bool.not_true, Bool.not_false, Bool.or_false, Bool.or_true, Bool.false_or, Bool.true_or, if_true, if_false, Bool.false_eq_true, ite_true, ite_false, ↓reduceIte, beq_self_eq_true, Nat.reduceEqDiff]
    refine AL.z ?_
    apply AL.nil
    try simp only [nd, setL, V.cs, nz, Nat.reduceAdd, nm, ns]
    refine ⟨_, ?_, F ++ [k], fun y => ?_, by simp; omega, rfl⟩
    ·simp only [List.map_append, List.map_cons, List.map_nil, List.length_append, List.length_cons, List.length_nil, Nat.zero_add]
     exact Less.a1
    simp only [List.mem_append, List.mem_singleton, hF y]
    constructor
    ·rintro (⟨h1, h2⟩ | rfl)
     ·exact ⟨by omega, h2⟩
     exact ⟨by omega, hbI.2 hfin⟩
    rintro ⟨h1, h2⟩
    by_cases e : y = k
    ·exact .inr e
    exact .inl ⟨by omega, h2⟩
   rintro s' ⟨F, hF, hFn, rfl⟩
   apply AW.sr
   iterate 4 refine AL.z ?_
   apply AL.nil
   try simp only [thenS, S.put, List.nil_append, List.cons_append]
   apply AW.block
   refine AW.loop (fun s' => ∃ (i : Nat) (B : List (List Nat)), i ≤ la ∧ B.length = n ∧ (∀ (p : Nat) (l : List Nat), B[p]? = some l → l.length ≤ 1000 * k + i ∧ ∀ q, q ∈ l ↔ (q < k ∧ bEdge ⟨st, sts⟩ p q) ∨ (q = k ∧ ∃ (j : Nat) (a : Ar), j < i ∧ x.arcs[j]? = some a ∧ a.t = (p : Int))) ∧
    s' = ⟨62, [(1, .ref 1 0), (5, .ref 5 0), (6, .own 100 1 F.length (decide (F.length = 0))), (7, .i k), (21, .d (stsD sts)), (22, .i n), (23, .i k), (36, .d (arsD x.arcs)), (37, .i la), (38, .i i)], [(1, ⟨24, [.i st, .d (stsD sts)], false, 0⟩), (5, ⟨84, [.own 19 1 n false], false, 0⟩), (19, ⟨42, FB.cells 1000 B, false, 1⟩), (100, ⟨3, F.map V.n, decide (F.length = 0), 1⟩)] ++ FB.objs 1000 B, []⟩) (fun s' => la - s'.nat 38) ⟨_, ?_, 0, B, by omega, hBn, (fun p l h => ⟨by have := (hB p l h).1; omega, fun q => by rw [(hB p l h).2 q]; simp⟩), rfl⟩ ?_
   ·exact Less.a1
   rintro s' ⟨i, B, hi, hBn, hB, rfl⟩
   by_cases hil : i < la
   ·obtain ⟨y, hy⟩ := get_lt hla hil
    have hyt := (hz x (List.mem_of_getElem? hx)).2 y (List.mem_of_getElem? hy)
    obtain ⟨yi, yo, yw, yt⟩ := y
    simp only [arOk, decide_eq_true_eq] at hyt
    obtain ⟨p, rfl⟩ : ∃ p : Nat, yt = p := ⟨yt.toNat, by omega⟩
    have hpn : p < n := by omega
    obtain ⟨l0, hl0⟩ := get_lt hBn hpn
    have hlen0 : (FB.it l0).length ≤ 1000000 := by have := (hB p l0 hl0).1; simp [FB]; omega
    have hpB : p < B.length := by omega
    have hset : (B.set p (l0 ++ [k]))[p]? = some (l0 ++ [k]) := by simp [List.getElem?_set, hpB]
    apply AW.sr
    refine AL.z ?_
    apply AL.nil
    try simp only [thenS, S.put, List.nil_append, List.cons_append]
    apply AW.seq
    refine AW.condT rfl ?_
    apply AW.skip
    try simp only [thenS, List.nil_append, List.cons_append]
    apply AW.seq
    apply AW.block
    apply AW.sr
    iterate 2 refine AL.z ?_
    refine AL.sm rfl (sm_alloc (l := [.d (.p (.int .i64 0)), .d (.p (.int .i64 0)), .d (.p (.int .i64 0)), .d (.p (.int .i64 0))]) 10 inf47 rfl (by first | rfl | (simp only [S.clean, S.put, S.newObj, List.all_cons, objs_clean_low, Nat.reduceLT]; simp [S.forget, V.has, V.hasL, junkIf, setL, V.cs, hasL_i, hasL_b, hasL_s, hasL_n, hasL_rep, hasL_flat, hasL_append, cells_hasL_low, has_ownV, hasL_frep, nb1, nb2, nb3, nb4, -List.map_set]; try omega)) rfl rfl) ?_
    refine AL.y ?_
    apply AL.nil
    try simp only [nd, setL, V.cs, nz, Nat.reduceAdd, nm, ns]
    refine AW.drawX (1000 + p) [(0, true), (1, true), (2, true), (3, true), (4, true), (5, true), (6, true), (7, true), (8, true), (9, false), (10, false), (11, false), (12, false)] (fun i => !([11, 12] : List Nat).contains i) 13 zT12 zT12 rfl zT12 ?_
    refine AE1.rx rfl rfl rfl (fun _ _ h => h) (rx_load_ref Tryz.underlying84 rfl rfl rfl rfl rfl rfl zT10) ?_
    refine AE1.rp rfl rfl rfl (fun _ _ h => h) (rp_field_ref Tryz.underlying47 rfl rfl rfl inf3 zT14 rfl) ?_
    refine AE1.rx rfl rfl rfl (fun _ _ h => h) (rx_load_ref Tryz.underlying3 rfl rfl rfl rfl rfl rfl zT10) ?_
    refine AE1.rx rfl rfl rfl (fun _ _ h => h) (rx_load_ref Tryz.underlying84 rfl rfl rfl rfl rfl rfl zT10) ?_
    refine AE1.rp rfl rfl rfl (fun _ _ h => h) (rp_field_ref Tryz.underlying47 rfl rfl rfl inf3 zT14 rfl) ?_
    refine AE1.rx rfl rfl rfl (fun _ _ h => h) (rx_load_ref Tryz.underlying3 rfl rfl rfl rfl rfl rfl zT10) ?_
    refine AE1.rp rfl rfl rfl (fun _ _ h => h) (rp_index_own Tryz.underlying84 inf42 rfl rfl rfl rfl zT9) ?_
    refine AE1.rx rfl rfl rfl (fun _ _ h => h) (rx_load_fam (m := 0) Tryz.underlying42 rfl rfl rfl rfl rfl rfl (fun _ => rfl) rfl zT13 zT10) ?_
    refine AE1.rp rfl rfl rfl (fun _ _ h => h) (rp_move rfl rfl) ?_
    refine AE1.go ?_
    refine AE2.sm rfl rfl (sm_sliceG (vs := [(0, _)]) (zs := [.d (.p (.int .i64 0))]) 51 Tryz.underlying42 inf3 rfl rfl zT14 zT14 zT14 rfl rfl rfl rfl (by first | rfl | (simp only [S.clean, S.put, S.newObj, List.all_cons, objs_clean_low, Nat.reduceLT]; simp [S.forget, V.has, V.hasL, junkIf, setL, V.cs, hasL_i, hasL_b, hasL_s, hasL_n, hasL_rep, hasL_flat, hasL_append, cells_hasL_low, has_ownV, hasL_frep, nb1, nb2, nb3, nb4, -List.map_set]; try omega)) rfl rfl) zT10 ?_
    (refine AE2.st rfl rfl (st_append_famX (lits := [_, _, _, _, _, _, _]) (x' := l0 ++ [k]) (m := 0) (newrow := [.p (.int .i64 (k : Int))]) (rb := 19) Tryz.underlying42 inf3 rfl zT14 zT14 rfl rfl rfl zT13 (fun _ => rfl) (by intro x l hl; simp [FB] at hl; first | (obtain ⟨_, _, rfl⟩ := hl; rfl) | (obtain ⟨_, _, _, rfl⟩ := hl; rfl) | (rcases hl with ⟨_, _, rfl⟩ <;> rfl)) rfl rfl rfl rfl rfl rfl rfl rfl (by simp [FB]) rfl rfl (by simp [V.hasL, V.has, nb1, nb2, nb3, nb4, setL, V.cs, hasL_i, hasL_b, hasL_s, hasL_n, hasL_rep, hasL_flat, hasL_append, -List.map_set]; try omega) (by first | assumption | (simp [FB]; omega))) ?_)
    try simp only [S.put, S.newObj, List.map_cons, List.map_nil, junkHi, V.low, V.lowL, low_ownV, Nat.reduceLT, decide_true, decide_false, Bool.and_true, Bool.true_and, if_true, if_false, Bool.false_eq_true, ite_true, ite_false, ↓reduceIte, List.cons_append, List.nil_append]
    refine AD3.rp1 rfl rfl rfl rfl (rp_index_own Tryz.underlying84 inf42 rfl rfl rfl rfl zT9) ?_
    (refine AD3.st rfl rfl rfl (st_store_fam (m := 0) inf42 rfl rfl rfl rfl rfl rfl (fun _ => rfl) rfl rfl (by first | assumption | (simp; omega))) ?_)
    refine AD3.nil ?_
    try simp only [nd, setL, V.cs, nz, Nat.reduceAdd, nm, ns]
    apply AW.region
    iterate 2 refine AL.z ?_
    apply AL.nil
    try simp only [thenS, S.put, List.nil_append, List.cons_append]
    refine ⟨_, ?_, ⟨i + 1, B.set p (l0 ++ [k]), by omega, by simpa using hBn, ?_, rfl⟩, ?_⟩
    ·exact Less.a1
    ·intro r l hl
     rw [List.getElem?_set] at hl
     have hstep : (∃ (j : Nat) (a : Ar), j < i + 1 ∧ x.arcs[j]? = some a ∧ a.t = (r : Int)) ↔ (∃ (j : Nat) (a : Ar), j < i ∧ x.arcs[j]? = some a ∧ a.t = (r : Int)) ∨ p = r := by
      constructor
      ·rintro ⟨j, a, h1, h2, h3⟩
       by_cases e : j = i
       ·subst e
        rw [hy] at h2
        simp only [Option.some.injEq] at h2
        subst h2
        simp only at h3
        exact .inr zT15
       exact .inl ⟨j, a, by omega, h2, h3⟩
      rintro (⟨j, a, h1, h2, h3⟩ | rfl)
      ·exact ⟨j, a, by omega, h2, h3⟩
      exact ⟨i, _, by omega, hy, rfl⟩
     split at hl
     ·rename_i e
      subst e
      simp only [Option.some.injEq] at hl
      subst hl
      refine ⟨by have := (hB p l0 hl0).1; simp; omega, fun q => ?_⟩
      rw [List.mem_append, (hB p l0 hl0).2 q, hstep]
      simp only [List.mem_singleton]
      constructor
      ·rintro ((h | h) | h)
       ·exact .inl h
       ·exact .inr ⟨h.1, .inl h.2⟩
       exact .inr ⟨h, .inr zT16⟩
      rintro (h | ⟨h1, h2 | _⟩)
      ·exact .inl (.inl h)
      ·exact .inl (.inr ⟨h1, h2⟩)
      exact .inr h1
     rename_i e
     refine ⟨by have := (hB r l hl).1; omega, fun q => ?_⟩
     rw [(hB r l hl).2 q, hstep]
     constructor
     ·rintro (h | h)
      ·exact .inl h
      exact .inr ⟨h.1, .inl h.2⟩
     rintro (h | ⟨h1, h2 | h2⟩)
     ·exact .inl h
     ·exact .inr ⟨h1, h2⟩
     exact absurd h2 e
    simp [S.nat, fnd]; omega
   skip
   apply AW.sr
   refine AL.z ?_
   apply AL.nil
   try simp only [thenS, S.put, List.nil_append, List.cons_append]
   apply AW.seq
   refine AW.condF rfl ?_
   refine AW.exit ?_
   try simp only [thenS, inBlockS, ↓reduceIte, Nat.reduceEqDiff, List.nil_append, List.cons_append]
   apply AW.region
   iterate 2 refine AL.z ?_
   apply AL.nil
   try simp only [thenS, S.put, List.nil_append, List.cons_append]
   refine ⟨_, ?_, ⟨k + 1, F, B, by omega, hF, hFn, hBn, fun p l hl => ⟨by have := (hB p l hl).1; omega, fun q => ?_⟩, rfl⟩, ?_⟩
   ·exact Less.a1
   ·rw [(hB p l hl).2 q]
    constructor
    ·rintro (⟨h1, h2⟩ | ⟨rfl, j, a, h1, h2, h3⟩)
     ·exact ⟨by omega, h2⟩
     exact ⟨by omega, x, a, hx, List.mem_of_getElem? h2, h3⟩
    rintro ⟨h1, h2⟩
    by_cases e : q = k
    ·subst e
     obtain ⟨s, a, h4, h5, h6⟩ := h2
     simp only at h4
     rw [hx] at h4
     simp only [Option.some.injEq] at h4
     subst h4
     obtain ⟨j, hj⟩ := List.getElem?_of_mem h5
     exact .inr ⟨rfl, j, a, by have := (List.getElem?_eq_some_iff.1 hj).1; omega, hj, h6⟩
    exact .inl ⟨by omega, h2⟩
   simp [S.nat, fnd]; omega
  obtain rfl : k = n := by omega
  have hFI : ∀ x, x ∈ F ↔ bInit ⟨st, sts⟩ x := fun x => by
   rw [hF x]
   exact ⟨fun h => h.2, fun h => ⟨by have := hin x (.init x h); simpa [hn] using this, h⟩⟩
  obtain ⟨f, hf⟩ : ∃ f, decide (F.length = 0) = f := ⟨_, rfl⟩
  rw [hf]
  have hFf : f = true → F = [] := by intro h; subst h; simpa using hf
  apply AW.sr
  refine AL.z ?_
  apply AL.nil
  try simp only [thenS, S.put, List.nil_append, List.cons_append]
  apply AW.seq
  refine AW.condF rfl ?_
  refine AW.exit ?_
  try simp only [thenS, inBlockS, ↓reduceIte, Nat.reduceEqDiff, List.nil_append, List.cons_append]
  apply AW.seq
  refine AW.less (s' := ⟨62, [(1, .ref 1 0), (5, .ref 5 0), (6, .own 100 1 F.length f)], [(1, ⟨24, [.i st, .d (stsD sts)], false, 0⟩), (5, ⟨84, [.own 19 1 k false], false, 0⟩), (19, ⟨42, FB.cells 1000 B, false, 1⟩), (100, ⟨3, F.map V.n, f, 1⟩)] ++ FB.objs 1000 B, []⟩) Less.a1 ?_
  refine AW.famFreeze (F := FB) (m := 0) (base := 1000) (L := B) [_, _, _, _] 19 rfl rfl rfl rfl (fun _ => rfl) (by intro x l hl; simp [FB] at hl; obtain ⟨_, _, rfl⟩ := hl; rfl) ?_ rfl (by simp [V.hasL, V.has]; intro r hr; omega) rfl rfl ?_
  ·intro l hl
   obtain ⟨p, hp⟩ := List.getElem?_of_mem hl
   have := (hB p l hp).1
   simp [FB]; omega
  refine AW.freezeH 5 0 24 (B.map FB.data) rfl rfl rfl zT14 rfl rfl (by simpa using hBn) zT15 (rowsF (sz := 1) (fun _ => rfl) rfl) ?_
  refine AW.less (s' := ⟨62, [(1, .ref 1 0), (5, .ref 5 0), (6, .own 100 1 F.length f)], [(1, ⟨24, [.i st, .d (stsD sts)], false, 0⟩), (5, ⟨84, [.d (.sl 1 24 (B.map encBk))], false, 0⟩), (100, ⟨3, F.map V.n, f, 1⟩)], []⟩) Less.a1 ?_
  obtain ⟨n, rfl⟩ : ∃ n, n = k := ⟨_, rfl⟩
  apply AW.region
  iterate 4 refine AL.z ?_
  refine AL.rp rfl rfl (rp_func (vs := [_]) rfl rfl) ?_
  refine AL.inline [] (ts := []) (ars := [_, _, _]) rfl rfl ⟨Tryz.func103, rfl, rfl, rfl, rfl⟩ rfl rfl rfl zT16 rfl fun kx => ?_
  try simp only [thenS, S.put, enum, List.nil_append, List.cons_append, List.append_nil, Nat.zero_add, Nat.reduceAdd]
  apply AW.sr
  refine AL.z ?_
  apply AL.nil
  try simp only [thenS, S.put, List.nil_append, List.cons_append]
  apply AW.sr
  refine AL.z ?_
  refine AL.sm rfl (sm_make_map 13 V.b (false) Tryz.underlying51 inf4 rfl rfl rfl rfl rfl zT15 zT14 (by first | rfl | (simp only [S.clean, S.put, S.newObj, List.all_cons, objs_clean_low, Nat.reduceLT]; simp [S.forget, V.has, V.hasL, junkIf, setL, V.cs, hasL_i, hasL_b, hasL_s, hasL_n, hasL_rep, hasL_flat, hasL_append, cells_hasL_low, has_ownV, hasL_frep, nb1, nb2, nb3, nb4, -List.map_set]; try omega)) rfl) ?_
  refine AL.sm rfl (sm_alloc (l := [.d (.p (.slice none 0 0))]) 7 inf51 rfl (by first | rfl | (simp only [S.clean, S.put, S.newObj, List.all_cons, objs_clean_low, Nat.reduceLT]; simp [S.forget, V.has, V.hasL, junkIf, setL, V.cs, hasL_i, hasL_b, hasL_s, hasL_n, hasL_rep, hasL_flat, hasL_append, cells_hasL_low, has_ownV, hasL_frep, nb1, nb2, nb3, nb4, -List.map_set]; try omega)) rfl rfl) ?_
  (refine AL.st rfl (st_store inf51 rfl rfl rfl rfl rfl rfl rfl zT7 rfl) ?_)
  apply AL.nil
  try simp only [nd, setL, V.cs, nz, Nat.reduceAdd, nm, ns]
  apply AW.sr
  refine AL.z ?_
  refine AL.sm rfl (sm_alloc (l := [.d (.p (.slice none 0 0))]) 8 inf42 rfl (by first | rfl | (simp only [S.clean, S.put, S.newObj, List.all_cons, objs_clean_low, Nat.reduceLT]; simp [S.forget, V.has, V.hasL, junkIf, setL, V.cs, hasL_i, hasL_b, hasL_s, hasL_n, hasL_rep, hasL_flat, hasL_append, cells_hasL_low, has_ownV, hasL_frep, nb1, nb2, nb3, nb4, -List.map_set]; try omega)) rfl rfl) ?_
  (refine AL.st rfl (st_store inf42 rfl rfl rfl rfl rfl rfl rfl zT7 rfl) ?_)
  apply AL.nil
  try simp only [nd, setL, V.cs, nz, Nat.reduceAdd, nm, ns]
  apply AW.seq
  apply AW.sr
  iterate 3 refine AL.z ?_
  apply AL.nil
  try simp only [thenS, S.put, List.nil_append, List.cons_append]
  apply AW.block
  refine AW.loop (fun s' => ∃ (k : Nat) (L : List Bool), k ≤ F.length ∧ L.length = n ∧ (∀ x, L[x]? = some true ↔ x ∈ F.take k) ∧ s' = ⟨44, [(2, .fn 105 [.ref 5 0]), (7, .ref 7 0), (8, .ref 8 0), (15, .own 100 1 F.length f), (16, .i F.length), (17, .i k)], [(1, ⟨24, [.i st, .d (stsD sts)], false, 0⟩), (5, ⟨84, [.d (.sl 1 24 (B.map encBk))], false, 0⟩), (100, ⟨3, F.map V.n, f, 1⟩), (7, ⟨51, [.own 13 1 n false], false, 0⟩), (8, ⟨42, [.own 100 1 F.length f], false, 0⟩), (13, ⟨4, L.map V.b, false, 1⟩)], []⟩) (fun s' => F.length - s'.nat 17) ⟨_, ?_, 0, List.replicate n false, by omega, by simp, by simp [List.getElem?_replicate], rfl⟩ ?_
  ·exact Less.a1
  rintro s' ⟨k, L, hk, hL, hLF, rfl⟩
  by_cases hlt : k < F.length
  ·obtain ⟨q, hq⟩ := get_lt rfl hlt
   obtain rfl : f = false := by cases f with | false => rfl | true => rw [hFf rfl] at hlt; simp at hlt
   have hqn : q < n := hin q (.init q ((hFI q).1 (List.mem_of_getElem? hq)))
   have hqL : q < L.length := by omega
   apply AW.sr
   refine AL.z ?_
   apply AL.nil
   try simp only [thenS, S.put, List.nil_append, List.cons_append]
   apply AW.seq
   refine AW.condT rfl ?_
   apply AW.skip
   try simp only [thenS, List.nil_append, List.cons_append]
   apply AW.seq
   apply AW.block
   apply AW.sr
   iterate 3 refine AL.z ?_
   apply AL.nil
   try simp only [thenS, S.put, List.nil_append, List.cons_append]
   apply AW.region
   iterate 3 refine AL.z ?_
   refine AL.st rfl (st_store_map2 inf4 rfl rfl rfl rfl rfl rfl rfl rfl zT9) ?_
   apply AL.nil
   try simp only [nd, setL, V.cs, nz, Nat.reduceAdd, nm, ns]
   apply AW.region
   iterate 2 refine AL.z ?_
   apply AL.nil
   try simp only [thenS, S.put, List.nil_append, List.cons_append]
   refine ⟨_, ?_, ⟨k + 1, L.set q true, by omega, by simpa using hL, fun x => ?_, rfl⟩, ?_⟩
   ·exact Less.a1
   ·rw [List.getElem?_set, take_snoc hq, List.mem_append, ← hLF x]
    by_cases e : q = x
    ·subst e; simp [hqL]
    simp [e, Ne.symm e]
   simp [S.nat, fnd]; omega
  rw [List.take_of_length_le zT15] at hLF
  have hfld : Fld (bInit ⟨st, sts⟩) (bEdge ⟨st, sts⟩) n (fun _ => False) L F := Fld.start hL hLF (fun x hx => (hFI x).1 hx)
  have hLi : ∀ x, bInit ⟨st, sts⟩ x → L[x]? = some true := fun x hx => (hLF x).2 ((hFI x).2 hx)
  clear hLF
  apply AW.sr
  refine AL.z ?_
  apply AL.nil
  try simp only [thenS, S.put, List.nil_append, List.cons_append]
  apply AW.seq
  refine AW.condF rfl ?_
  refine AW.exit ?_
  try simp only [thenS, inBlockS, ↓reduceIte, Nat.reduceEqDiff, List.nil_append, List.cons_append]
  apply AW.seq
  apply AW.block
  refine AW.loopN (fun μ s' => ∃ (L : List Bool) (todo : List Nat), μ ≤ 300 ∧ 2 * L.count false + todo.length ≤ μ ∧ (f = true → todo = []) ∧ Fld (bInit ⟨st, sts⟩) (bEdge ⟨st, sts⟩) n (fun _ => False) L todo ∧ (∀ x, bInit ⟨st, sts⟩ x → L[x]? = some true) ∧ s' = ⟨44, [(2, .fn 105 [.ref 5 0]), (7, .ref 7 0), (8, .ref 8 0)], [(1, ⟨24, [.i st, .d (stsD sts)], false, 0⟩), (5, ⟨84, [.d (.sl 1 24 (B.map encBk))], false, 0⟩), (100, ⟨3, todo.map V.n, f, 1⟩), (7, ⟨51, [.own 13 1 n false], false, 0⟩), (8, ⟨42, [.own 100 1 todo.length f], false, 0⟩), (13, ⟨4, L.map V.b, false, 1⟩)], []⟩) ⟨_, _, ?_, L, F, by have := List.count_le_length (l := L) (a := false); omega, Nat.le_refl _, hFf, hfld, hLi, rfl⟩ ?_
  ·exact Less.a1
  rintro μ s' ⟨L, todo, hμ3, hμ, hft, hfl, hLi, rfl⟩
  rcases List.eq_nil_or_concat todo with hnil | ⟨T, q, hTq⟩
  ·have hz0 : ¬ 0 < todo.length := by simp [hnil]
   have hL := hfl.done hnil (fun _ h => h) hLi hin
   apply AW.seq
   apply AW.sr
   iterate 3 refine AL.z ?_
   apply AL.nil
   try simp only [thenS, S.put, List.nil_append, List.cons_append]
   refine AW.condF rfl ?_
   refine AW.exit ?_
   try simp only [thenS, inBlockS, ↓reduceIte, Nat.reduceEqDiff, List.nil_append, List.cons_append]
   apply AW.sr
   iterate 2 refine AL.z ?_
   apply AL.nil
   try simp only [thenS, S.put, List.nil_append, List.cons_append]
   apply AW.ret
   try simp only [thenS, inBlockS, ↓reduceIte, Nat.reduceEqDiff, List.nil_append, List.cons_append]
   refine ⟨[_], ⟨rfl, trivial⟩, ?_⟩
   try simp only [S.put, tupOf, List.zip_cons_cons, List.zip_nil_left, List.drop_succ_cons, List.drop_zero, List.length_cons, List.length_nil, Nat.zero_add, Nat.reduceAdd]
   iterate 2 refine AL.z ?_
   apply AL.nil
   try simp only [thenS, S.put, List.nil_append, List.cons_append]
   refine AW.freeze 2 1 (L.map fun b => [.p (.bool b)]) rfl rfl rfl (by rw [List.length_map, hfl.len]) zT15 (rows1 rfl) ?_
   apply AW.ret
   exact ⟨[_, _], ⟨rfl, rfl, trivial⟩, .inr ⟨h0, by rw [h0, hA, ← hL]; rfl⟩, by simp [tupOf, V.pure, V.has, V.hasL]⟩
  rw [List.concat_eq_append] at hTq
  subst hTq
  obtain rfl : f = false := by cases f with | false => rfl | true => simp at hft
  obtain ⟨t, ht⟩ : ∃ t, T.length = t := ⟨_, rfl⟩
  have hlen : (T ++ [q]).length = t + 1 := by simp [ht]
  rw [hlen] at hμ ⊢
  have hlast : (T ++ [q])[t]? = some q := by simp [← ht]
  obtain ⟨hqL, hfl⟩ := hfl.take
  have hqn : q < n := by have := (List.getElem?_eq_some_iff.1 hqL).1; rw [hfl.len] at this; exact this
  have hLs : L.length = n := hfl.len
  have hcf : L.count false ≤ n := by rw [← hLs]; exact List.count_le_length
  obtain ⟨x, hx⟩ := get_lt hBn hqn
  obtain ⟨la, hla⟩ : ∃ n, x.length = n := ⟨_, rfl⟩
  have hla' := (hB q x hx).1
  rw [hla] at hla'
  have hxm := (hB q x hx).2
  apply AW.seq
  apply AW.sr
  iterate 3 refine AL.z ?_
  apply AL.nil
  try simp only [thenS, S.put, List.nil_append, List.cons_append]
  refine AW.condT rfl ?_
  apply AW.skip
  try simp only [thenS, List.nil_append, List.cons_append]
  apply AW.block
  apply AW.sr
  iterate 4 refine AL.z ?_
  refine AL.rp rfl rfl (rp_index_own (k := t) Tryz.underlying42 inf3 rfl rfl rfl zT15 zT15) ?_
  iterate 2 refine AL.z ?_
  apply AL.nil
  try simp only [thenS, S.put, List.nil_append, List.cons_append]
  apply AW.sr
  iterate 4 refine AL.z ?_
  refine AL.rd rfl rfl (rp_slice_own (k := t) Tryz.underlying42 inf3 rfl rfl rfl zT15 zT15) ?_
  (refine AL.st rfl (st_store inf42 rfl rfl rfl rfl rfl rfl rfl zT7 rfl) ?_)
  apply AL.nil
  try simp only [nd, setL, V.cs, nz, Nat.reduceAdd, nm, ns]
  refine AW.cut 100 (T.map V.n) rfl ⟨[V.n q], by simp⟩ ?_
  apply AW.region
  iterate 2 refine AL.z ?_
  refine AL.rp rfl rfl (rp_func (vs := [_, _]) rfl rfl) ?_
  refine AL.inline [2, 7, 8] (ts := [_, _, _]) (ars := [_, _]) rfl rfl ⟨Tryz.func105, rfl, rfl, rfl, rfl⟩ rfl rfl rfl zT16 rfl fun kx => ?_
  try simp only [thenS, S.put, enum, List.nil_append, List.cons_append, List.append_nil, Nat.zero_add, Nat.reduceAdd]
  apply AW.sr
  iterate 6 refine AL.z ?_
  apply AL.nil
  try simp only [thenS, S.put, List.nil_append, List.cons_append]
  apply AW.block
  refine AW.loop (fun s' => ∃ (i : Nat) (L : List Bool) (T : List Nat), i ≤ la ∧ 2 * L.count false + T.length < μ ∧ Fld (bInit ⟨st, sts⟩) (bEdge ⟨st, sts⟩) n (fun x => x = q) L T ∧ L[q]? = some true ∧ (∀ x, bInit ⟨st, sts⟩ x → L[x]? = some true) ∧ (∀ (j p : Nat), j < i → x[j]? = some p → L[p]? = some true) ∧ s' = ⟨20, [(1, .fn 122 [.ref 7 0, .ref 8 0]), (10, .d (.sl 1 8 (x.map fun x : Nat => [.p (.int .i64 (x : Int))]))), (11, .i la), (12, .i i)], [(1, ⟨24, [.i st, .d (stsD sts)], false, 0⟩), (5, ⟨84, [.d (.sl 1 24 (B.map encBk))], false, 0⟩), (100, ⟨3, T.map V.n, false, 1⟩), (7, ⟨51, [.own 13 1 n false], false, 0⟩), (8, ⟨42, [.own 100 1 T.length false], false, 0⟩), (13, ⟨4, L.map V.b, false, 1⟩)], [.fn 105 [.ref 5 0], .ref 7 0, .ref 8 0]⟩) (fun s' => la - s'.nat 12) ⟨_, ?_, 0, L, T, by omega, by omega, hfl, hqL, hLi, fun j p h => absurd h zT15, rfl⟩ ?_
  ·rw [ht]; exact Less.a1
  rintro s' ⟨i, L, T, hi, hμ', hfl, hqL, hLi, hdone, rfl⟩
  by_cases hil : i < la
  ·obtain ⟨p, hy⟩ := get_lt hla hil
   obtain ⟨_, hedge⟩ := (hxm p).1 (List.mem_of_getElem? hy)
   have hpn : p < n := by obtain ⟨s, a, h1, _⟩ := hedge; have := (List.getElem?_eq_some_iff.1 h1).1; simpa [hn] using this
   have hLs : L.length = n := hfl.len
   obtain ⟨b, hb⟩ := get_lt hLs hpn
   have hpl : p < L.length := by omega
   have hnew : ∀ L' : List Bool, (∀ z : Nat, L[z]? = some true → L'[z]? = some true) → L'[p]? = some true → ∀ (j r : Nat), j < i + 1 → x[j]? = some r → L'[r]? = some true := by
    intro L' h1 h2 j r hj ha
    by_cases e : j = i
    ·subst e
     rw [hy] at ha
     simp only [Option.some.injEq] at ha
     subst ha
     exact h2
    exact h1 r (hdone j r zT15 ha)
   apply AW.sr
   refine AL.z ?_
   apply AL.nil
   try simp only [thenS, S.put, List.nil_append, List.cons_append]
   apply AW.seq
   refine AW.condT rfl ?_
   apply AW.skip
   try simp only [thenS, List.nil_append, List.cons_append]
   apply AW.seq
   apply AW.block
   apply AW.sr
   iterate 3 refine AL.z ?_
   apply AL.nil
   try simp only [thenS, S.put, List.nil_append, List.cons_append]
   apply AW.region
   iterate 2 refine AL.z ?_
   refine AL.inline [1, 10, 11, 12] (ts := [_, _, _, _]) (ars := [_]) rfl rfl ⟨Tryz.func122, rfl, rfl, rfl, rfl⟩ rfl rfl rfl zT16 rfl fun kx => ?_
   try simp only [thenS, S.put, enum, List.nil_append, List.cons_append, List.append_nil, Nat.zero_add, Nat.reduceAdd]
   apply AW.sr
   iterate 5 refine AL.z ?_
   apply AL.nil
   try simp only [thenS, S.put, List.nil_append, List.cons_append]
   cases b with
   | true =>
    refine AW.condF rfl ?_
    apply AW.skip
    try simp only [thenS, List.nil_append, List.cons_append]
    refine ⟨[], trivial, ?_⟩
    try simp only [S.put, tupOf, List.zip_cons_cons, List.zip_nil_left, List.drop_succ_cons, List.drop_zero, List.length_cons, List.length_nil, Nat.zero_add, Nat.reduceAdd]
    apply AL.nil
    try simp only [thenS, S.put, List.nil_append, List.cons_append]
    apply AW.region
    iterate 2 refine AL.z ?_
    apply AL.nil
    try simp only [thenS, S.put, List.nil_append, List.cons_append]
    refine ⟨_, ?_, ⟨i + 1, L, T, by omega, hμ', hfl, hqL, hLi, hnew L (fun _ h => h) hb, rfl⟩, ?_⟩
    ·exact Less.a1
    simp [S.nat, fnd]; omega
   | false =>
    have hc := count_set L hb
    refine AW.condT rfl ?_
    apply AW.sr
    iterate 3 refine AL.z ?_
    refine AL.st rfl (st_store_map2 inf4 rfl rfl rfl rfl rfl rfl rfl rfl zT9) ?_
    apply AL.nil
    try simp only [nd, setL, V.cs, nz, Nat.reduceAdd, nm, ns]
    apply AW.region
    iterate 2 refine AL.z ?_
    refine AL.sm rfl (sm_slice (vs := [(0, _)]) (zs := [.d (.p (.int .i64 0))]) 14 Tryz.underlying42 inf3 rfl rfl zT14 zT14 zT14 rfl rfl rfl rfl (by first | rfl | (simp only [S.clean, S.put, S.newObj, List.all_cons, objs_clean_low, Nat.reduceLT]; simp [S.forget, V.has, V.hasL, junkIf, setL, V.cs, hasL_i, hasL_b, hasL_s, hasL_n, hasL_rep, hasL_flat, hasL_append, cells_hasL_low, has_ownV, hasL_frep, nb1, nb2, nb3, nb4, -List.map_set]; try omega)) rfl rfl) ?_
    refine AL.st rfl (st_appendF Tryz.underlying42 inf3 rfl zT14 rfl rfl rfl rfl rfl rfl zT5 (by first | rfl | (simp only [S.clean, S.put, S.newObj, List.all_cons, objs_clean_low, Nat.reduceLT]; simp [S.forget, V.has, V.hasL, junkIf, setL, V.cs, hasL_i, hasL_b, hasL_s, hasL_n, hasL_rep, hasL_flat, hasL_append, cells_hasL_low, has_ownV, hasL_frep, nb1, nb2, nb3, nb4, -List.map_set]; try omega)) rfl rfl rfl rfl rfl rfl rfl zT14 zT15 zT15 rfl) ?_
    simp only [objs_filter_low, Fam.objs_forget, cells_hasL_low, has_ownV, nb3, nb4, Nat.reduceLT, S.forget, S.put, S.newObj, junkIf, V.has, V.hasL, nh, hasL_flat, hasL_append, List.map_cons, List.map_nil, List.filter_cons, List.filter_nil, Nat.reduceBNe, Nat.reduceBEq, eq_self, bne_self_eq_false,  Bool.not_true, Bool.not_false, Bool.or_false, Bool.or_true, Bool.false_or, Bool.true_or, if_true, if_false, Bool.false_eq_true, ite_true, ite_false, ↓reduceIte, beq_self_eq_true, Nat.reduceEqDiff]
    (refine AL.st rfl (st_store inf42 rfl rfl rfl rfl rfl rfl rfl zT7 rfl) ?_)
    apply AL.nil
    try simp only [nd, setL, V.cs, nz, Nat.reduceAdd, nm, ns]
    refine ⟨[], trivial, ?_⟩
    try simp only [S.put, tupOf, List.zip_cons_cons, List.zip_nil_left, List.drop_succ_cons, List.drop_zero, List.length_cons, List.length_nil, Nat.zero_add, Nat.reduceAdd]
    apply AL.nil
    try simp only [thenS, S.put, List.nil_append, List.cons_append]
    apply AW.region
    iterate 2 refine AL.z ?_
    apply AL.nil
    try simp only [thenS, S.put, List.nil_append, List.cons_append]
    refine ⟨_, ?_, ⟨i + 1, L.set p true, T ++ [p], by omega, by simp; omega, hfl.push hqL hedge hb, set_true_get hqL, fun z hz => set_true_get (hLi z hz), hnew _ (fun _ h => set_true_get h) (by rw [List.getElem?_set_self hpl]), rfl⟩, ?_⟩
    ·simp only [List.map_append, List.map_cons, List.map_nil, List.length_append, List.length_cons, List.length_nil, Nat.zero_add]
     exact Less.a1
    simp [S.nat, fnd]; omega
  skip
  apply AW.sr
  refine AL.z ?_
  apply AL.nil
  try simp only [thenS, S.put, List.nil_append, List.cons_append]
  apply AW.seq
  refine AW.condF rfl ?_
  refine AW.exit ?_
  try simp only [thenS, inBlockS, ↓reduceIte, Nat.reduceEqDiff, List.nil_append, List.cons_append]
  refine ⟨[], trivial, ?_⟩
  try simp only [S.put, tupOf, List.zip_cons_cons, List.zip_nil_left, List.drop_succ_cons, List.drop_zero, List.length_cons, List.length_nil, Nat.zero_add, Nat.reduceAdd]
  apply AL.nil
  try simp only [thenS, S.put, List.nil_append, List.cons_append]
  refine ⟨_, _, ?_, ⟨L, T, ?_, Nat.le_refl _, by simp, hfl.settle (fun p he hp => ?_), hLi, rfl⟩, hμ'⟩
  ·exact Less.a1
  ·omega
  obtain ⟨j, hj⟩ := List.getElem?_of_mem ((hxm p).2 ⟨hp, he⟩)
  have hjl : j < la := by rw [← hla]; exact (List.getElem?_eq_some_iff.1 hj).1
  exact hdone j p zT15 hj
 obtain ⟨st, sts⟩ := m
 obtain ⟨e, he⟩ : ∃ e, machE ⟨st, sts⟩ = e := ⟨_, rfl⟩
 rw [he] at h0 ⊢
 refine Fn.intro (n := 62) ⟨Tryz.func72, rfl, rfl, rfl, rfl⟩ zT8 zT16 fun w0 out => ?_
 apply AW.sr
 refine AL.sm rfl (sm_box 1 rfl rfl rfl rfl rfl) ?_
 iterate 2 refine AL.z ?_
 apply AL.nil
 try simp only [nd, setL, V.cs, nz, Nat.reduceAdd, nm, ns, enum]
 apply AW.seq
 apply AW.sr
 refine AL.z ?_
 refine AL.call (post := ?pc1) rfl (sm_call (args := [_]) ?hc1 ⟨Tryz.func27, rfl, rfl, rfl, rfl⟩ rfl rfl rfl rfl) ?_
 case hc1 => exact Fn.eqi (am_Check ⟨st, sts⟩) he
 rintro _ rfl -
 try dsimp only
 refine AL.z ?_
 apply AL.nil
 try simp only [nd, setL, V.cs, nz, Nat.reduceAdd, nm, ns]
 apply AW.sr
 iterate 2 refine AL.z ?_
 apply AL.nil
 try simp only [thenS, S.put, List.nil_append, List.cons_append]
 refine AW.condT rfl ?_
 apply AW.sr
 iterate 3 refine AL.z ?_
 apply AL.nil
 try simp only [thenS, S.put, List.nil_append, List.cons_append]
 apply AW.ret
 exact ⟨[_, _], ⟨rfl, rfl, trivial⟩, .inl ⟨h0, rfl⟩, by simp [tupOf, V.pure, V.has, V.hasL]⟩
theorem am_Back (m : Mach) : Fn Tryz.prog 72 [mV m] (fun v => v = .tup [.d (boolsD (backL m)), .i (machE m)]) := (am_Back0 m).wk (backL_wk m)
theorem am_Trim0 (m : Mach) : Fn Tryz.prog 33 [mV m] (fun v => (machE m ≠ 0 ∧ v = .tup [.agg [.i 0, .nil], .i (machE m)]) ∨ (machE m = 0 ∧ v = .tup [mV (trimM m), .i (machE m)])) := by
 refine Fn.mach m 0 rfl fun hb hal => ?_
 by_cases h0 : machE m = 0
 ·obtain ⟨hz1, hz2, hz3, hz⟩ := machE_zero h0
  have hT : trimM m = ⟨pl (tKept m) m.start, (tKept m).map fun q => tState (tKept m) (m.states.getD q ⟨0, []⟩)⟩ := by unfold trimM; rw [if_pos h0]
  have hAl := aheadL_len h0
  have hBl := backL_len h0
  obtain ⟨A, hA⟩ : ∃ A, aheadL m = A := ⟨_, rfl⟩
  obtain ⟨B, hB⟩ : ∃ B, backL m = B := ⟨_, rfl⟩
  have hK : ∀ q a b, A[q]? = some a → B[q]? = some b → tKeep m q = (a && b) := fun q a b ha hb => tKeep_of (by rw [hA]; exact ha) (by rw [hB]; exact hb)
  have hkept : tKept m = (List.range m.states.length).filter (tKeep m) := rfl
  obtain ⟨K, hKd⟩ : ∃ K, tKeep m = K := ⟨_, rfl⟩
  obtain ⟨kept, hkd⟩ : ∃ kept, tKept m = kept := ⟨_, rfl⟩
  obtain ⟨T, hTd⟩ : ∃ T, trimM m = T := ⟨_, rfl⟩
  rw [hKd] at hK hkept
  rw [hkd] at hkept hT
  rw [hTd] at hT ⊢
  obtain ⟨st, sts⟩ := m
  simp only at hz1 hz2 hz3 hz hb hal hAl hBl hkept hT
  rw [hA] at hAl
  rw [hB] at hBl
  obtain ⟨n, hn⟩ : ∃ n, sts.length = n := ⟨_, rfl⟩
  rw [hn] at hz1 hz3 hz hb hAl hBl hkept
  refine Fn.intro (n := 118) ⟨Tryz.func33, rfl, rfl, rfl, rfl⟩ zT8 zT16 fun w0 out => ?_
  apply AW.sr
  refine AL.sm rfl (sm_box 1 rfl rfl rfl rfl rfl) ?_
  refine AL.sm rfl (sm_alloc (l := [.d (.p (.int .i64 0)), .d (.p (.slice none 0 0))]) 2 inf24 rfl rfl rfl rfl) ?_
  refine AL.z ?_
  apply AL.nil
  try simp only [nd, setL, V.cs, nz, Nat.reduceAdd, nm, ns, enum]
  apply AW.sr
  refine AL.z ?_
  refine AL.call (post := ?pc2) rfl (sm_call (args := [_]) ?hc2 ⟨Tryz.func71, rfl, rfl, rfl, rfl⟩ rfl rfl rfl rfl) ?_
  case hc2 => exact Fn.eqv (am_Ahead ⟨st, sts⟩) (by rw [hA, h0])
  rintro _ rfl -
  try dsimp only
  iterate 5 refine AL.z ?_
  apply AL.nil
  try simp only [nd, setL, V.cs, nz, Nat.reduceAdd, nm, ns]
  apply AW.seq
  apply AW.sr
  iterate 2 refine AL.z ?_
  apply AL.nil
  try simp only [nd]
  refine AW.condF rfl ?_
  apply AW.skip
  try simp only [thenS]
  apply AW.sr
  refine AL.z ?_
  refine AL.call (post := ?pc3) rfl (sm_call (args := [_]) ?hc3 ⟨Tryz.func72, rfl, rfl, rfl, rfl⟩ rfl rfl rfl rfl) ?_
  case hc3 => exact Fn.eqv (am_Back ⟨st, sts⟩) (by rw [hB, h0])
  rintro _ rfl -
  try dsimp only
  iterate 5 refine AL.z ?_
  apply AL.nil
  try simp only [nd, setL, V.cs, nz, Nat.reduceAdd, nm, ns]
  apply AW.sr
  iterate 3 refine AL.z ?_
  refine AL.sm rfl (sm_make_map 34 V.i (0) Tryz.underlying42 inf3 rfl rfl rfl rfl rfl zT15 zT14 rfl rfl) ?_
  refine AL.z ?_
  apply AL.nil
  try simp only [nd, setL, V.cs, nz, Nat.reduceAdd, nm, ns]
  apply AW.sr
  refine AL.z ?_
  apply AL.nil
  try simp only [nd]
  apply AW.seq
  apply AW.sr
  iterate 4 refine AL.z ?_
  apply AL.nil
  try simp only [nd]
  apply AW.block
  have hpl : ∀ q, q < n → pl kept (q : Int) = if K q then (((List.range q).filter K).length : Int) else -1 := fun q hq => by rw [hkept]; exact pl_filter hq
  refine AW.loop (fun s' => ∃ (k : Nat) (N : List Int), k ≤ n ∧ N.length = n ∧ (∀ q, q < k → N[q]? = some (pl kept q)) ∧ s' = ⟨118, [(1, .ref 1 0), (2, .ref 2 0), (4, .d (boolsD A)), (6, .d (boolsD B)), (8, .own 34 1 n false), (9, .i ((List.range k).filter K).length), (37, .i n), (38, .i k)], [(1, ⟨24, [.i st, .d (stsD sts)], false, 0⟩), (2, ⟨24, [.i 0, .nil], false, 0⟩), (34, ⟨3, N.map V.i, false, 1⟩)], []⟩) (fun s' => n - s'.nat 38) ⟨_, ?_, 0, List.replicate n 0, by omega, by simp, (fun q h => absurd h zT15), rfl⟩ ?_
  ·exact Less.a0
  rintro s' ⟨k, N, hk, hN, hNq, rfl⟩
  have hlk := filter_range_len K k
  by_cases hlt : k < n
  ·obtain ⟨a, ha⟩ := get_lt hAl hlt
   obtain ⟨b, hb'⟩ := get_lt hBl hlt
   have hKk := hK k a b ha hb'
   have hplk := hpl k hlt
   have hsk := filter_range_succ K k
   have hkN : k < N.length := by omega
   have hkN2 : k < (N.set k (-1)).length := by simpa using hkN
   have hstep : ∀ v : Int, v = pl kept k → ∀ q, q < k + 1 → (N.set k v)[q]? = some (pl kept q) := by
    intro v hv q hq
    rw [List.getElem?_set]
    by_cases e : k = q
    ·subst e; simp [hkN, hv]
    rw [if_neg e]; exact hNq q zT15
   have hstep2 : ∀ v : Int, v = pl kept k → ∀ q, q < k + 1 → ((N.set k (-1)).set k v)[q]? = some (pl kept q) := by
    intro v hv q hq
    rw [List.set_set]
    exact hstep v hv q hq
   cases a with
   | true =>
    cases b with
    | true =>
     simp only [hKk, Bool.and_self, if_true] at hsk hplk
     apply AW.sr
     refine AL.z ?_
     apply AL.nil
     try simp only [nd]
     apply AW.seq
     refine AW.condT rfl ?_
     apply AW.skip
     try simp only [thenS]
     apply AW.seq
     apply AW.block
     apply AW.sr
     iterate 2 refine AL.z ?_
     apply AL.nil
     try simp only [nd]
     apply AW.sr
     iterate 3 refine AL.z ?_
     refine AL.st rfl (st_store_map2 inf3 rfl rfl rfl rfl rfl rfl rfl rfl zT9) ?_
     apply AL.nil
     try simp only [nd, setL, V.cs, nz, Nat.reduceAdd, nm, ns]
     apply AW.sr
     iterate 5 refine AL.z ?_
     iterate 4 refine AL.zy ?_
     refine AL.z ?_
     apply AL.nil
     try simp only [nd]
     refine AW.condT rfl ?_
     apply AW.sr
     iterate 4 refine AL.z ?_
     refine AL.st rfl (st_store_map2 inf3 rfl rfl rfl rfl rfl rfl rfl rfl zT9) ?_
     apply AL.nil
     try simp only [nd, setL, V.cs, nz, Nat.reduceAdd, nm, ns]
     apply AW.region
     iterate 3 refine AL.z ?_
     apply AL.nil
     try simp only [nd]
     apply AW.region
     iterate 2 refine AL.z ?_
     apply AL.nil
     try simp only [nd]
     refine ⟨_, ?_, ⟨k + 1, _, by omega, by simpa using hN, hstep2 _ hplk.symm, rfl⟩, ?_⟩
     ·rw [hsk]
      simp only [List.length_append, List.length_cons, List.length_nil, Nat.zero_add]
      exact Less.a0
     simp [S.nat, fnd]; omega
    | false =>
     simp only [hKk, Bool.and_false, Bool.false_eq_true, if_false, List.append_nil] at hsk hplk
     apply AW.sr
     refine AL.z ?_
     apply AL.nil
     try simp only [nd]
     apply AW.seq
     refine AW.condT rfl ?_
     apply AW.skip
     try simp only [thenS]
     apply AW.seq
     apply AW.block
     apply AW.sr
     iterate 2 refine AL.z ?_
     apply AL.nil
     try simp only [nd]
     apply AW.sr
     iterate 3 refine AL.z ?_
     refine AL.st rfl (st_store_map2 inf3 rfl rfl rfl rfl rfl rfl rfl rfl zT9) ?_
     apply AL.nil
     try simp only [nd, setL, V.cs, nz, Nat.reduceAdd, nm, ns]
     apply AW.sr
     iterate 5 refine AL.z ?_
     iterate 4 refine AL.zy ?_
     refine AL.z ?_
     apply AL.nil
     try simp only [nd]
     refine AW.condF rfl ?_
     apply AW.skip
     try simp only [thenS]
     apply AW.region
     iterate 2 refine AL.z ?_
     apply AL.nil
     try simp only [nd]
     refine ⟨_, ?_, ⟨k + 1, _, by omega, by simpa using hN, hstep _ hplk.symm, rfl⟩, ?_⟩
     ·rw [hsk]
      exact Less.a0
     simp [S.nat, fnd]; omega
   | false =>
    simp only [hKk, Bool.false_and, Bool.false_eq_true, if_false, List.append_nil] at hsk hplk
    apply AW.sr
    refine AL.z ?_
    apply AL.nil
    try simp only [nd]
    apply AW.seq
    refine AW.condT rfl ?_
    apply AW.skip
    try simp only [thenS]
    apply AW.seq
    apply AW.block
    apply AW.sr
    iterate 2 refine AL.z ?_
    apply AL.nil
    try simp only [nd]
    apply AW.sr
    iterate 3 refine AL.z ?_
    refine AL.st rfl (st_store_map2 inf3 rfl rfl rfl rfl rfl rfl rfl rfl zT9) ?_
    apply AL.nil
    try simp only [nd, setL, V.cs, nz, Nat.reduceAdd, nm, ns]
    apply AW.sr
    iterate 5 refine AL.z ?_
    refine AL.no rfl rfl rfl rfl ?_
    refine AL.no rfl rfl rfl rfl ?_
    refine AL.no rfl rfl rfl rfl ?_
    refine AL.no rfl rfl rfl rfl ?_
    refine AL.z ?_
    apply AL.nil
    try simp only [nd]
    refine AW.condF rfl ?_
    apply AW.skip
    try simp only [thenS]
    apply AW.region
    iterate 2 refine AL.z ?_
    apply AL.nil
    try simp only [nd]
    refine ⟨_, ?_, ⟨k + 1, _, by omega, by simpa using hN, hstep _ hplk.symm, rfl⟩, ?_⟩
    ·rw [hsk]
     exact Less.a0
    simp [S.nat, fnd]; omega
  obtain rfl : k = n := by omega
  rw [← hkept] at hlk
  obtain ⟨c, hc⟩ : ∃ c, kept.length = c := ⟨_, rfl⟩
  rw [hc] at hlk
  apply AW.sr
  refine AL.z ?_
  apply AL.nil
  try simp only [nd]
  apply AW.seq
  refine AW.condF rfl ?_
  refine AW.exit ?_
  try simp only [thenS, inBlockS, ↓reduceIte, Nat.reduceEqDiff]
  apply AW.seq
  refine AW.freeze 8 8 (N.map fun x => [.p (.int .i64 x)]) rfl rfl rfl (by rw [List.length_map, hN]) zT15 (rows1 rfl) ?_
  refine AW.less (s' := ⟨118, [(1, .ref 1 0), (2, .ref 2 0), (8, .d (intsD N))], [(1, ⟨24, [.i st, .d (stsD sts)], false, 0⟩), (2, ⟨24, [.i 0, .nil], false, 0⟩)], []⟩) Less.a0 ?_
  apply AW.region
  refine AL.rp rfl rfl (rp_build (vs := [(0, _)]) (zs := [.d (.p (.int .i64 0)), .d (.p (.slice none 0 0))]) pl24 inf24 rfl rfl rfl rfl) ?_
  refine AL.sm rfl (sm_alloc (l := [.d (.p (.int .i64 0)), .d (.p (.slice none 0 0))]) 11 inf24 rfl rfl rfl rfl) ?_
  refine AL.y ?_
  apply AL.nil
  try simp only [nd, setL, V.cs, nz, Nat.reduceAdd, nm, ns]
  refine AW.seqc (fun s' => s' = ⟨118, [(1, .ref 1 0), (2, .ref 2 0), (8, .d (intsD N)), (11, .ref 11 0)], [(1, ⟨24, [.i st, .d (stsD sts)], false, 0⟩), (2, ⟨24, [.i 0, .nil], false, 0⟩), (11, ⟨24, [.i (pl kept st), .nil], false, 0⟩)], []⟩) ?_ ?_
  ·skip
   by_cases hs0 : 0 ≤ st
   ·obtain ⟨p, rfl⟩ : ∃ p : Nat, st = p := ⟨st.toNat, by omega⟩
    have hNp := hNq p zT15
    apply AW.sr
    iterate 3 refine AL.z ?_
    apply AL.nil
    try simp only [nd]
    refine AW.condT rfl ?_
    apply AW.region
    iterate 6 refine AL.z ?_
    (refine AL.st rfl (st_store inf3 rfl rfl rfl rfl rfl rfl rfl zT7 rfl) ?_)
    apply AL.nil
    try simp only [nd, setL, V.cs, nz, Nat.reduceAdd, nm, ns]
    refine ⟨_, ?_, rfl⟩
    exact Less.a0
   have hpn : pl kept st = -1 := pl_neg _ zT15
   apply AW.sr
   iterate 3 refine AL.z ?_
   apply AL.nil
   try simp only [nd]
   refine AW.condF rfl ?_
   apply AW.skip
   try simp only [thenS]
   refine ⟨_, ?_, rfl⟩
   rw [hpn]
   exact Less.a0
  rintro s' rfl
  obtain ⟨n, rfl⟩ : ∃ n, n = k := ⟨_, rfl⟩
  refine AW.adoptH 11 1 101 2 35 rfl rfl rfl zT4 ?_
  apply AW.seq
  apply AW.sr
  iterate 4 refine AL.z ?_
  apply AL.nil
  try simp only [nd]
  apply AW.block
  refine AW.loop (fun s' => ∃ k : Nat, k ≤ n ∧ s' = ⟨118, [(1, .ref 1 0), (2, .ref 2 0), (8, .d (intsD N)), (11, .ref 11 0), (72, .d (stsD sts)), (73, .i n), (74, .i k)], [(1, ⟨24, [.i st, .d (stsD sts)], false, 0⟩), (2, ⟨24, [.i 0, .nil], false, 0⟩), (11, ⟨24, [.i (pl kept st), .own 101 2 ((List.range k).filter K).length (decide (((List.range k).filter K).length = 0))], false, 0⟩), (101, ⟨35, (((List.range k).filter K).map fun q => tState kept (sts.getD q ⟨0, []⟩)).flatMap stV2, decide (((List.range k).filter K).length = 0), 2⟩)], []⟩) (fun s' => n - s'.nat 74) ⟨_, ?_, 0, by omega, rfl⟩ ?_
  ·exact Less.a0
  rintro s' ⟨k, hk, rfl⟩
  have hlk := filter_range_len K k
  by_cases hlt : k < n
  ·obtain ⟨x, hx⟩ := get_lt hn hlt
   have hNk := hNq k hlt
   have hplk := hpl k hlt
   have hsk := filter_range_succ K k
   by_cases hKk : K k = true
   ·rw [if_pos hKk] at hplk hsk
    have hpos : ¬ pl kept k < 0 := by rw [hplk]; omega
    obtain ⟨la, hla⟩ : ∃ n, x.arcs.length = n := ⟨_, rfl⟩
    have hla' := Nat.le_trans (arcN_mem sts x (List.mem_of_getElem? hx)) hz2
    rw [hla] at hla'
    have hxd : sts.getD k ⟨0, []⟩ = x := by simp [List.getD_eq_getElem?_getD, hx]
    have hfl : ((((List.range k).filter K).map fun q => tState kept (sts.getD q ⟨0, []⟩)).flatMap stV2).length = ((List.range k).filter K).length * 2 := by rw [flat_len (sz := 2) (fun _ => rfl), List.length_map]
    apply AW.sr
    refine AL.z ?_
    apply AL.nil
    try simp only [nd]
    apply AW.seq
    refine AW.condT rfl ?_
    apply AW.skip
    try simp only [thenS]
    apply AW.seq
    apply AW.block
    apply AW.sr
    iterate 3 refine AL.z ?_
    refine AL.sm rfl (sm_alloc (l := [.d (.p (.int .i64 0)), .d (.p (.slice none 0 0))]) 13 inf35 rfl zT1 rfl rfl) ?_
    refine AL.z ?_
    refine AL.y ?_
    apply AL.nil
    try simp only [nd, setL, V.cs, nz, Nat.reduceAdd, nm, ns]
    apply AW.seq
    apply AW.sr
    iterate 5 refine AL.z ?_
    apply AL.nil
    try simp only [nd]
    refine AW.condF rfl ?_
    apply AW.skip
    try simp only [thenS]
    apply AW.sr
    iterate 2 refine AL.z ?_
    refine AL.rp rfl rfl (rp_build (vs := [(0, _)]) (zs := [.d (.p (.int .i64 0)), .d (.p (.slice none 0 0))]) pl35 inf35 rfl rfl rfl rfl) ?_
    refine AL.sm rfl (sm_alloc (l := [.d (.p (.int .i64 0)), .d (.p (.slice none 0 0))]) 14 inf35 rfl zT1 rfl rfl) ?_
    refine AL.y ?_
    apply AL.nil
    try simp only [nd, setL, V.cs, nz, Nat.reduceAdd, nm, ns]
    apply AW.seq
    apply AW.seq
    refine AW.adoptH 14 1 102 4 47 rfl rfl rfl zT4 ?_
    apply AW.region
    iterate 4 refine AL.z ?_
    apply AL.nil
    try simp only [nd]
    apply AW.block
    refine AW.loop (fun s' => ∃ i : Nat, i ≤ la ∧ s' = ⟨118, [(1, .ref 1 0), (2, .ref 2 0), (8, .d (intsD N)), (11, .ref 11 0), (14, .ref 14 0), (72, .d (stsD sts)), (73, .i n), (74, .i k), (88, .d (arsD x.arcs)), (89, .i la), (90, .i i)], [(1, ⟨24, [.i st, .d (stsD sts)], false, 0⟩), (2, ⟨24, [.i 0, .nil], false, 0⟩), (11, ⟨24, [.i (pl kept st), .own 101 2 ((List.range k).filter K).length (decide (((List.range k).filter K).length = 0))], false, 0⟩), (101, ⟨35, (((List.range k).filter K).map fun q => tState kept (sts.getD q ⟨0, []⟩)).flatMap stV2, decide (((List.range k).filter K).length = 0), 2⟩), (14, ⟨35, [.i x.fin, .own 102 4 ((x.arcs.take i).filterMap (tArc kept)).length (decide (((x.arcs.take i).filterMap (tArc kept)).length = 0))], false, 0⟩), (102, ⟨47, ((x.arcs.take i).filterMap (tArc kept)).flatMap arV2, decide (((x.arcs.take i).filterMap (tArc kept)).length = 0), 4⟩)], []⟩) (fun s' => la - s'.nat 90) ⟨_, ?_, 0, by omega, rfl⟩ ?_
    ·exact Less.a0
    rintro s' ⟨i, hi, rfl⟩
    have hfm : ((x.arcs.take i).filterMap (tArc kept)).length ≤ la := by
     have := List.length_filterMap_le (tArc kept) (x.arcs.take i)
     rw [List.length_take] at this
     omega
    have hfl2 : (((x.arcs.take i).filterMap (tArc kept)).flatMap arV2).length = ((x.arcs.take i).filterMap (tArc kept)).length * 4 := flat_len (sz := 4) (fun _ => rfl)
    by_cases hil : i < la
    ·obtain ⟨y, hy⟩ := get_lt hla hil
     have hyt := (hz x (List.mem_of_getElem? hx)).2 y (List.mem_of_getElem? hy)
     have hsn2 := filterMap_snoc (tArc kept) hy
     obtain ⟨yi, yo, yw, yt⟩ := y
     simp only [arOk, decide_eq_true_eq] at hyt
     obtain ⟨p, rfl⟩ : ∃ p : Nat, yt = p := ⟨yt.toNat, by omega⟩
     have hNp := hNq p zT15
     by_cases hp : 0 ≤ pl kept p
     ·have hty : tArc kept ⟨yi, yo, yw, p⟩ = some ⟨yi, yo, yw, pl kept p⟩ := by unfold tArc; rw [if_pos hp]
      rw [hty, Option.toList] at hsn2
      apply AW.sr
      refine AL.z ?_
      apply AL.nil
      try simp only [nd]
      apply AW.seq
      refine AW.condT rfl ?_
      apply AW.skip
      try simp only [thenS]
      apply AW.seq
      apply AW.block
      apply AW.sr
      iterate 2 refine AL.z ?_
      refine AL.sm rfl (sm_alloc (l := [.d (.p (.int .i64 0)), .d (.p (.int .i64 0)), .d (.p (.int .i64 0)), .d (.p (.int .i64 0))]) 16 inf47 rfl zT1 rfl rfl) ?_
      refine AL.y ?_
      apply AL.nil
      try simp only [nd, setL, V.cs, nz, Nat.reduceAdd, nm, ns]
      apply AW.sr
      iterate 6 refine AL.z ?_
      (refine AL.st rfl (st_store inf3 rfl rfl rfl rfl rfl rfl rfl zT7 rfl) ?_)
      apply AL.nil
      try simp only [nd, setL, V.cs, nz, Nat.reduceAdd, nm, ns]
      apply AW.sr
      iterate 3 refine AL.z ?_
      apply AL.nil
      try simp only [nd]
      refine AW.condT rfl ?_
      apply AW.region
      iterate 3 refine AL.z ?_
      refine AL.sm rfl (sm_slice (vs := [(0, _)]) (zs := [.d (.p (.int .i64 0)), .d (.p (.int .i64 0)), .d (.p (.int .i64 0)), .d (.p (.int .i64 0))]) 106 Tryz.underlying33 inf47 rfl rfl zT14 zT14 zT14 rfl rfl rfl rfl zT1 rfl rfl) ?_
      refine AL.st rfl (st_appendF Tryz.underlying33 inf47 rfl zT14 rfl rfl rfl rfl rfl rfl zT5 zT1 rfl rfl rfl rfl rfl rfl rfl zT14 zT15 zT15 rfl) ?_
      simp only [S.forget, S.put, S.newObj, junkIf, V.has, V.hasL, nh, hasL_flat, hasL_append, List.map_cons, List.map_nil, List.filter_cons, List.filter_nil, Nat.reduceBNe, Nat.reduceBEq, eq_self, bne_self_eq_false,  Bool.not_true, Bool.not_false, Bool.or_false, Bool.or_true, Bool.false_or, Bool.true_or, if_true, if_false, Bool.false_eq_true, ite_true, ite_false, ↓reduceIte, beq_self_eq_true, Nat.reduceEqDiff]
      refine AL.z ?_
      (refine AL.st rfl (st_store inf33 rfl rfl rfl rfl rfl rfl rfl zT7 rfl) ?_)
      apply AL.nil
      try simp only [nd, setL, V.cs, nz, Nat.reduceAdd, nm, ns]
      apply AW.region
      iterate 2 refine AL.z ?_
      apply AL.nil
      try simp only [nd]
      refine ⟨_, ?_, ⟨i + 1, by omega, rfl⟩, ?_⟩
      ·rw [hsn2]
       simp only [List.flatMap_append, List.flatMap_cons, List.flatMap_nil, List.append_nil, List.length_append, List.length_cons, List.length_nil, Nat.zero_add]
       exact Less.a0
      simp [S.nat, fnd]; omega
     have hty : tArc kept ⟨yi, yo, yw, p⟩ = none := by unfold tArc; rw [if_neg hp]
     rw [hty, Option.toList, List.append_nil] at hsn2
     apply AW.sr
     refine AL.z ?_
     apply AL.nil
     try simp only [nd]
     apply AW.seq
     refine AW.condT rfl ?_
     apply AW.skip
     try simp only [thenS]
     apply AW.seq
     apply AW.block
     apply AW.sr
     iterate 2 refine AL.z ?_
     refine AL.sm rfl (sm_alloc (l := [.d (.p (.int .i64 0)), .d (.p (.int .i64 0)), .d (.p (.int .i64 0)), .d (.p (.int .i64 0))]) 16 inf47 rfl zT1 rfl rfl) ?_
     refine AL.y ?_
     apply AL.nil
     try simp only [nd, setL, V.cs, nz, Nat.reduceAdd, nm, ns]
     apply AW.sr
     iterate 6 refine AL.z ?_
     (refine AL.st rfl (st_store inf3 rfl rfl rfl rfl rfl rfl rfl zT7 rfl) ?_)
     apply AL.nil
     try simp only [nd, setL, V.cs, nz, Nat.reduceAdd, nm, ns]
     apply AW.sr
     iterate 3 refine AL.z ?_
     apply AL.nil
     try simp only [nd]
     refine AW.condF rfl ?_
     apply AW.skip
     try simp only [thenS]
     apply AW.region
     iterate 2 refine AL.z ?_
     apply AL.nil
     try simp only [nd]
     refine ⟨_, ?_, ⟨i + 1, by omega, rfl⟩, ?_⟩
     ·rw [hsn2]
      exact Less.a0
     simp [S.nat, fnd]; omega
    have hfull : x.arcs.take i = x.arcs := List.take_of_length_le zT15
    rw [hfull] at hfm hfl2 ⊢
    apply AW.sr
    refine AL.z ?_
    apply AL.nil
    try simp only [nd]
    apply AW.seq
    refine AW.condF rfl ?_
    refine AW.exit ?_
    try simp only [thenS, inBlockS, ↓reduceIte, Nat.reduceEqDiff]
    refine AW.freezeH 14 1 32 ((x.arcs.filterMap (tArc kept)).map arD) rfl rfl rfl zT14 rfl rfl (by rw [List.length_map]) zT15 (rowsF (enc := arD) (sz := 4) (l := x.arcs.filterMap (tArc kept)) (fun _ => rfl) rfl) ?_
    refine AW.less (s' := ⟨118, [(1, .ref 1 0), (2, .ref 2 0), (8, .d (intsD N)), (11, .ref 11 0), (14, .ref 14 0), (72, .d (stsD sts)), (73, .i n), (74, .i k)], [(1, ⟨24, [.i st, .d (stsD sts)], false, 0⟩), (2, ⟨24, [.i 0, .nil], false, 0⟩), (11, ⟨24, [.i (pl kept st), .own 101 2 ((List.range k).filter K).length (decide (((List.range k).filter K).length = 0))], false, 0⟩), (101, ⟨35, (((List.range k).filter K).map fun q => tState kept (sts.getD q ⟨0, []⟩)).flatMap stV2, decide (((List.range k).filter K).length = 0), 2⟩), (14, ⟨35, [.i x.fin, .d (arsD (x.arcs.filterMap (tArc kept)))], false, 0⟩)], []⟩) Less.a0 ?_
    apply AW.region
    iterate 3 refine AL.z ?_
    refine AL.sm rfl (sm_slice (vs := [(0, _)]) (zs := [.d (.p (.int .i64 0)), .d (.p (.slice none 0 0))]) 113 Tryz.underlying22 inf35 rfl rfl zT14 zT14 zT14 rfl rfl rfl rfl zT1 rfl rfl) ?_
    refine AL.st rfl (st_appendF Tryz.underlying22 inf35 rfl zT14 rfl rfl rfl rfl rfl rfl zT5 zT1 rfl rfl rfl rfl rfl rfl rfl zT14 zT15 zT15 rfl) ?_
    simp only [S.forget, S.put, S.newObj, junkIf, V.has, V.hasL, nh, hasL_flat, hasL_append, List.map_cons, List.map_nil, List.filter_cons, List.filter_nil, Nat.reduceBNe, Nat.reduceBEq, eq_self, bne_self_eq_false,  Bool.not_true, Bool.not_false, Bool.or_false, Bool.or_true, Bool.false_or, Bool.true_or, if_true, if_false, Bool.false_eq_true, ite_true, ite_false, ↓reduceIte, beq_self_eq_true, Nat.reduceEqDiff]
    refine AL.z ?_
    (refine AL.st rfl (st_store inf22 rfl rfl rfl rfl rfl rfl rfl zT7 rfl) ?_)
    apply AL.nil
    try simp only [nd, setL, V.cs, nz, Nat.reduceAdd, nm, ns]
    apply AW.region
    iterate 2 refine AL.z ?_
    apply AL.nil
    try simp only [nd]
    refine ⟨_, ?_, ⟨k + 1, by omega, rfl⟩, ?_⟩
    ·rw [hsk]
     simp only [List.map_append, List.map_cons, List.map_nil, hxd, List.flatMap_append, List.flatMap_cons, List.flatMap_nil, List.append_nil, List.length_append, List.length_cons, List.length_nil, Nat.zero_add]
     exact Less.a0
    simp [S.nat, fnd]; omega
   rw [if_neg hKk] at hplk hsk
   rw [List.append_nil] at hsk
   have hneg : pl kept k < 0 := by rw [hplk]; omega
   apply AW.sr
   refine AL.z ?_
   apply AL.nil
   try simp only [nd]
   apply AW.seq
   refine AW.condT rfl ?_
   apply AW.skip
   try simp only [thenS]
   apply AW.seq
   apply AW.block
   apply AW.sr
   iterate 3 refine AL.z ?_
   refine AL.sm rfl (sm_alloc (l := [.d (.p (.int .i64 0)), .d (.p (.slice none 0 0))]) 13 inf35 rfl zT1 rfl rfl) ?_
   refine AL.z ?_
   refine AL.y ?_
   apply AL.nil
   try simp only [nd, setL, V.cs, nz, Nat.reduceAdd, nm, ns]
   apply AW.seq
   apply AW.sr
   iterate 5 refine AL.z ?_
   apply AL.nil
   try simp only [nd]
   refine AW.condT rfl ?_
   refine AW.exit ?_
   try simp only [thenS, inBlockS, ↓reduceIte, Nat.reduceEqDiff]
   apply AW.region
   iterate 2 refine AL.z ?_
   apply AL.nil
   try simp only [nd]
   refine ⟨_, ?_, ⟨k + 1, by omega, rfl⟩, ?_⟩
   ·rw [hsk]
    exact Less.a0
   simp [S.nat, fnd]; omega
  obtain rfl : k = n := by omega
  rw [← hkept, hc]
  apply AW.sr
  refine AL.z ?_
  apply AL.nil
  try simp only [nd]
  apply AW.seq
  refine AW.condF rfl ?_
  refine AW.exit ?_
  try simp only [thenS, inBlockS, ↓reduceIte, Nat.reduceEqDiff]
  apply AW.seq
  refine AW.freezeH 11 1 32 ((kept.map fun q => tState kept (sts.getD q ⟨0, []⟩)).map stD) rfl rfl rfl zT14 rfl rfl (by simp [hc]) zT15 (rowsF (enc := stD) (sz := 2) (l := kept.map fun q => tState kept (sts.getD q ⟨0, []⟩)) (fun _ => rfl) rfl) ?_
  apply AW.region
  refine AL.z ?_
  refine AL.y ?_
  refine AL.z ?_
  apply AL.nil
  try simp only [nd, setL, V.cs, nz, Nat.reduceAdd, nm, ns]
  apply AW.ret
  exact ⟨[_, _], ⟨⟨2, 0, _, _, rfl, rfl, rfl, Tryz.underlying24, .inr ⟨rfl, _, _, _, _, inf24, rfl, rfl, rfl⟩⟩, rfl, trivial⟩, .inr ⟨h0, by rw [hT, h0]; rfl⟩, by simp [tupOf, V.pure, V.has, V.hasL]⟩
 obtain ⟨st, sts⟩ := m
 obtain ⟨e, he⟩ : ∃ e, machE ⟨st, sts⟩ = e := ⟨_, rfl⟩
 obtain ⟨A, hA⟩ : ∃ A, aheadL ⟨st, sts⟩ = A := ⟨_, rfl⟩
 rw [he] at h0 ⊢
 refine Fn.intro (n := 118) ⟨Tryz.func33, rfl, rfl, rfl, rfl⟩ zT8 zT16 fun w0 out => ?_
 apply AW.sr
 refine AL.sm rfl (sm_box 1 rfl rfl rfl rfl rfl) ?_
 refine AL.sm rfl (sm_alloc (l := [.d (.p (.int .i64 0)), .d (.p (.slice none 0 0))]) 2 inf24 rfl rfl rfl rfl) ?_
 refine AL.z ?_
 apply AL.nil
 try simp only [nd, setL, V.cs, nz, Nat.reduceAdd, nm, ns, enum]
 apply AW.sr
 refine AL.z ?_
 refine AL.call (post := ?pc4) rfl (sm_call (args := [_]) ?hc4 ⟨Tryz.func71, rfl, rfl, rfl, rfl⟩ rfl rfl rfl rfl) ?_
 case hc4 => exact Fn.eqv (am_Ahead ⟨st, sts⟩) (by rw [hA, he])
 rintro _ rfl -
 try dsimp only
 iterate 5 refine AL.z ?_
 apply AL.nil
 try simp only [nd, setL, V.cs, nz, Nat.reduceAdd, nm, ns]
 apply AW.seq
 apply AW.sr
 iterate 2 refine AL.z ?_
 apply AL.nil
 try simp only [nd]
 refine AW.condT rfl ?_
 apply AW.sr
 refine AL.rp rfl rfl (rp_build (vs := []) (zs := [.d (.p (.int .i64 0)), .d (.p (.slice none 0 0))]) pl24 inf24 rfl rfl rfl rfl) ?_
 refine AL.z ?_
 refine AL.y ?_
 refine AL.z ?_
 apply AL.nil
 try simp only [nd, setL, V.cs, nz, Nat.reduceAdd, nm, ns]
 apply AW.ret
 exact ⟨[_, _], ⟨⟨2, 0, _, _, rfl, rfl, rfl, Tryz.underlying24, .inr ⟨rfl, _, _, _, _, inf24, rfl, rfl, rfl⟩⟩, rfl, trivial⟩, .inl ⟨h0, rfl⟩, by simp [tupOf, V.pure, V.has, V.hasL]⟩
theorem flat_lenF {sz : Nat} : ∀ (rows : List (List D)), (∀ l ∈ rows, l.length = sz) → rows.flatten.length = rows.length * sz
  | [], _ => by simp
  | l :: rows, h => by
    rw [List.flatten_cons, List.length_append, flat_lenF rows (fun x hx => h x (by simp [hx])), h l zT16, List.length_cons, Nat.succ_mul, Nat.add_comm]
theorem flat_getF {sz : Nat} : ∀ (rows : List (List D)) (i j : Nat) (l0 : List D) (u : D), (∀ l ∈ rows, l.length = sz) → rows[i]? = some l0 → l0[j]? = some u → rows.flatten[i * sz + j]? = some u
  | [], i, j, l0, u, _, h, _ => by simp at h
  | l :: rows, 0, j, l0, u, hl, h, hu => by
    simp at h
    subst h
    have hj := (List.getElem?_eq_some_iff.1 hu).1
    rw [List.flatten_cons, Nat.zero_mul, Nat.zero_add, List.getElem?_append_left hj, hu]
  | l :: rows, i + 1, j, l0, u, hl, h, hu => by
    have hlen := hl l zT16
    rw [List.flatten_cons, List.getElem?_append_right (by rw [hlen, Nat.succ_mul]; omega), hlen, show (i + 1) * sz + j - sz = i * sz + j by rw [Nat.succ_mul]; omega]
    exact flat_getF rows i j l0 u (fun x hx => hl x (by simp [hx])) (by simpa using h) hu
theorem flat_setF {sz : Nat} : ∀ (rows : List (List D)) (i j : Nat) (l0 : List D) (v : D), (∀ l ∈ rows, l.length = sz) → rows[i]? = some l0 → j < sz → (rows.set i (l0.set j v)).flatten = rows.flatten.set (i * sz + j) v
  | [], i, j, l0, v, _, h, _ => by simp at h
  | l :: rows, 0, j, l0, v, hl, h, hj => by
    simp at h
    subst h
    have hlen := hl l zT16
    rw [List.set_cons_zero, List.flatten_cons, List.flatten_cons, Nat.zero_mul, Nat.zero_add, List.set_append_left _ _ zT15]
  | l :: rows, i + 1, j, l0, v, hl, h, hj => by
    have hlen := hl l zT16
    rw [List.set_cons_succ, List.flatten_cons, List.flatten_cons, List.set_append_right _ _ (by rw [hlen, Nat.succ_mul]; omega), hlen, show (i + 1) * sz + j - sz = i * sz + j by rw [Nat.succ_mul]; omega]
    rw [flat_setF rows i j l0 v (fun x hx => hl x (by simp [hx])) (by simpa using h) hj]
section
variable {β : Type} {F : Fam β} {c : Cx} {s : S} {o : Oper} {Q : Exit → S → Prop}
theorem Fam.cells_same : ∀ (L : List β) (k p : Nat) (x x' : β), L[p]? = some x → F.pre x' = F.pre x → (F.it x').length = (F.it x).length → F.cells k (L.set p x') = F.cells k L
  | [], k, p, x, x', h, _, _ => by simp at h
  | y :: L, k, 0, x, x', h, hp, hi => by
    simp at h
    subst h
    have e : (F.it x').isEmpty = (F.it y).isEmpty := by
      cases h1 : F.it x' <;> cases h2 : F.it y <;> simp_all
    simp only [List.set_cons_zero, Fam.cells, hp, Fam.ownV, hi, e]
  | y :: L, k, p + 1, x, x', h, hp, hi => by
    simp only [List.set_cons_succ, Fam.cells]
    rw [Fam.cells_same L (k + 1) p x x' (by simpa using h) hp hi]
theorem fit_fnd {lits : List (Nat × Row)} {L : List β} {base p : Nat} {x0 : β} (hH : s.H = lits ++ F.objs base L) (hlow : lits.all (fun x => decide (x.1 < base)) = true) (hp : L[p]? = some x0) : fnd s.H (base + p) = some (F.row x0) := by
  rw [hH, fnd_app, fnd_low hlow zT15, Fam.objs_get, hp]; rfl
/-- A cell of an element of one of the slices. -/
theorem rd_load_fit {t : TypeId} {d : TypeDesc} {x : Operand} {k p i j base : Nat} {lits : List (Nat × Row)} {L : List β} {x0 : β} {l0 : List D} {v : D} (hu : c.P.underlying t = some d) (hd : isAggD d = false) (ho : o.op = .load t x) (hx : s.ev x = some (.ref (base + p) k)) (hH : s.H = lits ++ F.objs base L) (hlow : lits.all (fun x => decide (x.1 < base)) = true)
    (hp : L[p]? = some x0) (hk : k = i * F.sz + j) (hl : (F.it x0)[i]? = some l0) (hrow : ∀ x, ∀ l ∈ F.it x, l.length = F.sz) (hv : l0[j]? = some v) : RD c o s (.d v) := by
  have hne : (F.it x0).isEmpty = false := by
    cases h : F.it x0 with
    | nil => rw [h] at hl; simp at hl
    | cons => rfl
  refine rd_load_ref hu hd ho hx (fit_fnd hH hlow hp) hne ?_
  simp only [Fam.row, hk, List.getElem?_map, flat_getF (F.it x0) i j l0 v (hrow x0) hl hv, Option.map_some]
/-- A cell of an element of one of the slices is stored. -/
theorem st_store_fit {t : TypeId} {bt : Nat} {z : Value} {x y : Operand} {rb k p i j base : Nat} {lits : List (Nat × Row)} {row : Row} {L : List β} {x0 : β} (x' : β) {l0 : List D} {v : D} (hi : Inf c.P t 1 bt z) (ho : o.op = .store t x y) (hd : o.dst = none) (hx : s.ev x = some (.ref (base + p) k)) (hy : s.ev y = some (.d v)) (hH : s.H = lits ++ F.objs base L) (hlow : lits.all (fun x => decide (x.1 < base)) = true)
    (hr : fnd lits rb = some row) (hc : row.cells = F.cells base L) (hp : L[p]? = some x0) (hk : k = i * F.sz + j) (hl : (F.it x0)[i]? = some l0) (hj : j < F.sz) (hrow : ∀ x, ∀ l ∈ F.it x, l.length = F.sz) (hone : (V.d v).one = true) (hpre : F.pre x' = F.pre x0) (hit : F.it x' = (F.it x0).set i (l0.set j v)) :
    Step c o s (fun s' => s' = ⟨s.n, s.T, (rb, { row with cells := F.cells base (L.set p x') }) :: lits ++ F.objs base (L.set p x'), s.K⟩) := by
  have hil : i < (F.it x0).length := (List.getElem?_eq_some_iff.1 hl).1
  have hne : (F.it x0).isEmpty = false := by
    cases h : F.it x0 with
    | nil => rw [h] at hl; simp at hl
    | cons => rfl
  have hpl : p < L.length := (List.getElem?_eq_some_iff.1 hp).1
  have hlen : (F.it x').length = (F.it x0).length := by rw [hit]; simp
  have hne' : (F.it x').isEmpty = false := by
    cases h : F.it x' with
    | nil => rw [h] at hlen; simp at hlen; omega
    | cons => rfl
  have hflat : (F.row x').cells = (F.row x0).cells.set k (.d v) := by
    simp only [Fam.row, hit, flat_setF (F.it x0) i j l0 v (hrow x0) hl hj, hk, List.map_set]
  have hk2 : k < (F.row x0).cells.length := by
    simp only [Fam.row, List.length_map, flat_lenF (F.it x0) (hrow x0), hk]
    have : i * F.sz + F.sz ≤ (F.it x0).length * F.sz := by rw [← Nat.succ_mul]; exact Nat.mul_le_mul_right _ hil
    omega
  have key := st_store (l := (F.row x').cells) hi ho hd hx hy (fit_fnd hH hlow hp) (row := F.row x0) hne hone hk2 (by rw [hflat])
  have hsame := Fam.cells_same (F := F) L base p x0 x' hp hpre hlen
  have hrb : rb < base := by have := List.all_eq_true.1 hlow _ (fnd_mem hr); simpa using this
  intro g a w hs K Q' hK
  refine key g a w hs K Q' fun g' s' a' w' hs' hsim => ?_
  subst hs'
  refine hK g' _ a' w' rfl (hsim.less ⟨rfl, fun i v h => ⟨v, h, .refl _⟩, fun r row' hr' => ?_, fun j v h => ⟨v, h, .refl _⟩⟩)
  have hr' : fnd ((rb, { row with cells := F.cells base (L.set p x') }) :: (lits ++ F.objs base (L.set p x'))) r = some row' := hr'
  show ∃ row2, fnd ((base + p, { F.row x0 with cells := (F.row x').cells }) :: s.H) r = some row2 ∧ _
  rw [fnd] at hr'
  by_cases e : rb = r
  · subst e
    rw [if_pos zT16] at hr'
    have hr' := Option.some.inj hr'
    subst hr'
    refine ⟨row, ?_, rfl, rfl, rfl, fun j v hv => ⟨v, ?_, .refl _⟩⟩
    · rw [fnd, if_neg zT11, hH, fnd_app, hr]
    rw [hc, ← hsame]; exact hv
  rw [if_neg (by simpa using e), fnd_app] at hr'
  cases hl2 : fnd lits r with
  | some row2 =>
    rw [hl2] at hr'
    have hr' := Option.some.inj hr'
    subst hr'
    have : r < base := by have := List.all_eq_true.1 hlow _ (fnd_mem hl2); simpa using this
    exact ⟨row2, by rw [fnd, if_neg zT11, hH, fnd_app, hl2], rfl, rfl, rfl, fun j v hv => ⟨v, hv, .refl _⟩⟩
  | none =>
    rw [hl2] at hr'
    obtain ⟨q, y, rfl, hy', rfl⟩ := Fam.objs_inv hr'
    by_cases eq : q = p
    · subst eq
      rw [List.getElem?_set_self hpl] at hy'
      have hy' := Option.some.inj hy'
      subst hy'
      refine ⟨{ F.row x0 with cells := (F.row x').cells }, by rw [fnd, if_pos zT16], rfl, ?_, rfl, fun j v hv => ⟨v, hv, .refl _⟩⟩
      show (F.it x').isEmpty = (F.it x0).isEmpty
      rw [hne, hne']
    rw [List.getElem?_set_ne (Ne.symm eq)] at hy'
    refine ⟨F.row y, ?_, rfl, rfl, rfl, fun j v hv => ⟨v, hv, .refl _⟩⟩
    rw [fnd, if_neg zT11, hH, fnd_app, fnd_low hlow zT15, Fam.objs_get, hy']; rfl
/-- All of it, as a callee sees it that only reads. -/
theorem fam_rep {g : Nat → Nat × Nat} {a : Act} {w : World} {lits : List (Nat × Row)} {L : List β} {base rb m szr btr : Nat} {row : Row} {f : Bool} (hs : Sim c g s a w) (hH : s.H = lits ++ F.objs base L) (hlow : lits.all (fun x => decide (x.1 < base)) = true) (hr : fnd lits rb = some row) (hf : row.nil = f) (hc : row.cells = F.cells base L)
    (hm : ∀ x, (F.pre x).length = m) (hsz : m + 1 = szr) (hbt : L.length * btr ≤ 140737488355328) (hrow : ∀ x, ∀ l ∈ F.it x, l.length = F.sz) (hit : ∀ x ∈ L, (F.it x).length * F.bt ≤ 140737488355328) {x : Value} (hx : VRep w (qt c s.H g) g (.own rb szr L.length f) x) : VRep w (fun b => ¬ c.out b) g (.d (.sl szr btr (L.map F.data))) x := by
  subst hsz
  have hrb : fnd s.H rb = some row := by rw [hH, fnd_app, hr]
  have hob : ∀ r row, fnd s.H r = some row → row.nil = false → ¬ c.out (g r).1 := fun r row hr hn h => by
    have h1 := hs.low _ h
    have h2 := hs.base r row hr hn
    omega
  refine .d _ _ ?_
  generalize hLn : L.length = n at hx
  cases hx with
  | own _ _ _ hle hcap =>
    obtain ⟨arr, h1, _, h2⟩ := hs.obj rb row hrb hf
    have hcell : ∀ (i j : Nat) (y : β) (u : D), L[i]? = some y → (F.data y)[j]? = some u → ∃ z, arr[i * (m + 1) + j]? = some z ∧ DRep w (fun b => ¬ c.out b) u z := by
      intro i j y u hi hj
      unfold Fam.data at hj
      by_cases hjm : j < m
      · rw [List.getElem?_append_left (by rw [hm]; exact hjm)] at hj
        obtain ⟨z, h3, h4⟩ := h2 _ (.d u) (by rw [hc]; exact Fam.cells_pre hm L base i j y u hi hj)
        refine ⟨z, h3, ?_⟩
        cases h4 with
        | d _ _ h5 => exact h5.mono Cells.rfl (fun b hb _ => hb.1)
      rw [List.getElem?_append_right (by rw [hm]; omega), hm] at hj
      cases hjj : j - m with
      | succ q => rw [hjj] at hj; simp at hj
      | zero =>
        rw [hjj] at hj
        simp at hj
        subst hj
        obtain rfl : j = m := by omega
        obtain ⟨z, h3, h4⟩ := h2 _ _ (by rw [hc]; exact Fam.cells_own hm L base i y hi)
        refine ⟨z, h3, ?_⟩
        have := Ro.rep hs (Ro.own (base + i) F.sz (F.it y).length F.bt (F.it y).isEmpty (F.row y) (F.it y) (fit_fnd hH hlow hi) rfl rfl (hit y (List.mem_of_getElem? hi)) (fun i' j' l u h5 h6 => by
          simp only [Fam.row, List.getElem?_map, flat_getF (F.it y) i' j' l u (hrow y) h5 h6, Option.map_some])) h4
        cases this with
        | d _ _ h5 => exact h5
    have hkey : ∀ (i j : Nat) (row' : List D) (u : D), (L.map F.data)[i]? = some row' → row'[j]? = some u → ∃ z, arr[i * (m + 1) + j]? = some z ∧ DRep w (fun b => ¬ c.out b) u z := by
      intro i j row' u hi hj
      rw [List.getElem?_map] at hi
      cases hy : L[i]? with
      | none => rw [hy] at hi; cases hi
      | some y =>
        rw [hy] at hi
        simp only [Option.map_some, Option.some.injEq] at hi
        subst hi
        exact hcell i j y u hy hj
    have hln : (L.map F.data).length = n := by rw [List.length_map, hLn]
    rw [← hln]
    refine .sl (m + 1) btr (L.map F.data) _ _ (g rb).1 0 (fun i j => arr.getD (i * (m + 1) + j) undef) zT15 (fun _ => ⟨rfl, hob rb row hrb hf, (Array.getElem?_eq_some_iff.1 h1).1⟩) (by rw [hln, ← hLn]; exact hbt) ?_ ?_
    · intro i j l u hi hj
      obtain ⟨z, h3, _⟩ := hkey i j l u hi hj
      rw [Nat.zero_add, cell_of_row w _ _ _ _ _ h1, h3]
      simp [Array.getD_eq_getD_getElem?, h3]
    intro i j l u hi hj
    obtain ⟨z, h3, h4⟩ := hkey i j l u hi hj
    simpa [Array.getD_eq_getD_getElem?, h3] using h4
  | ownNil =>
    have : L = [] := by simpa using hLn
    subst this
    exact .sl (m + 1) btr [] none 0 0 0 (fun _ _ => undef) (Nat.le_refl 0) (fun h => absurd rfl h) zT16 zT16 zT16
/-- A call that reads the caller's own and answers with a slice of its own, of plain values. -/
theorem sm_callF {fx : Operand} {xs : Array Operand} {ts : Array TypeId} {f : FuncId} {fn : Func} {code : Code} {n R len : Nat} {rs : List ResultVar} {args l : List V} {ty : TypeId} {e : Int} (hfn : FnO c.P f args (fun v H => v = .tup [.own R 1 len false, .i e] ∧ H = [(R, ⟨ty, l, false, 1⟩)])) (hpl : ∀ v ∈ l, ∃ y, v = .d (.p y)) (hf : Is c.P f fn code n rs) (ho : o.op = .call { callee := .value fx, args := xs, argTypes := ts })
    (hfx : s.ev fx = some (.fn f [])) (hro : ∀ g a w, Sim c g s a w → VReps w (fun b => ¬ c.out b) g args (xs.toList.map a.eval)) (hd : dok s o = true) (hcl : s.clean R = true) : StepM c o s (fun s' => s' = S.put ⟨s.n, s.T, (R, ⟨ty, l, false, 1⟩) :: s.H, s.K⟩ o.dst (.tup [.own R 1 len false, .i e])) := by
  intro g a w hs K Q hK
  have hfx' : a.eval fx = .func (.func f) #[] ([] : List Value).toArray := by
    have h := hs.ev hfx
    generalize a.eval fx = u at h
    cases h with
    | fn _ _ cs hl _ =>
      obtain rfl : cs = [] := by cases cs with | nil => rfl | cons => simp at hl
      rfl
  unfold Oper.wp
  rw [exec_call (caps := []) hf ho hfx']
  simp only [Oper.upon, List.append_nil]
  refine (hfn w c.out g _ (fun b h => Nat.lt_of_lt_of_le (hs.low b h) hs.below.size) (hro g a w hs)).mono ?_
  rintro e' w' ⟨v, x, g', H, rfl, ⟨rfl, rfl⟩, _, hO, h3, h4⟩
  obtain ⟨arr, o1, o2, o3⟩ := hO.obj R ⟨ty, l, false, 1⟩ (by simp [fnd]) rfl
  have hnew : w.heap.size ≤ (g' R).1 := hO.new R ⟨ty, l, false, 1⟩ (by simp [fnd]) rfl
  have hw : Cells w w' (qt c s.H g) := ⟨h4.size, fun b o u _ h1 h2 => (h4.cell (p := ⟨b, o, none⟩) h1).trans h2, Below.maps h4⟩
  have hltb : ∀ {b o}, w.heap[b]? = some o → b < w.heap.size := fun h => (Array.getElem?_eq_some_iff.1 h).1
  have hfo : ∀ k row', fnd ((R, (⟨ty, l, false, 1⟩ : Row)) :: s.H) k = some row' → k = R ∧ row' = ⟨ty, l, false, 1⟩ ∨ k ≠ R ∧ fnd s.H k = some row' := by
    intro k row' hk
    rw [fnd] at hk
    by_cases e : R = k
    · subst e
      rw [if_pos zT16] at hk
      exact .inl ⟨rfl, (Option.some.inj hk).symm⟩
    rw [if_neg (by simpa using e)] at hk
    exact .inr ⟨Ne.symm e, hk⟩
  have hq : ∀ b, qt c s.H g b → b < w.heap.size → qt c ((R, (⟨ty, l, false, 1⟩ : Row)) :: s.H) (fun k => if k = R then g' R else g k) b := by
    intro b hb hlt
    refine ⟨hb.1, fun k row' hk hn => ?_⟩
    rcases hfo k row' hk with ⟨rfl, _⟩ | ⟨e, h1⟩
    · simp only [if_true]; omega
    simp only [if_neg e]; exact hb.2 k row' h1 hn
  have hm : ∀ v x, v.has R = false → VRep w (qt c s.H g) g v x → VRep w' (qt c ((R, (⟨ty, l, false, 1⟩ : Row)) :: s.H) (fun k => if k = R then g' R else g k)) (fun k => if k = R then g' R else g k) v x := by
    intro v x hv hx
    refine hx.mono hw hq fun k hk => ?_
    have e : k ≠ R := by rintro rfl; rw [hv] at hk; cases hk
    simp [e]
  refine hK (fun k => if k = R then g' R else g k) _ _ _ rfl (Sim.put (s := ⟨s.n, s.T, (R, ⟨ty, l, false, 1⟩) :: s.H, s.K⟩) ⟨hs.size, hs.defers, ?_, ?_, ?_, ?_, ?_, ?_, hs.low, hs.below.trans (h4.mono hs.below.size)⟩ o.dst (dok_spec hd) ?_) h4
  · intro i v hv
    obtain ⟨y, h1, h2⟩ := hs.tmp i v hv
    exact ⟨y, h1, hm v y (S.clean_tmp hcl hv) h2⟩
  · intro k row' hk hn
    rcases hfo k row' hk with ⟨_, rfl⟩ | ⟨_, h1⟩
    · cases hn
    exact hs.nul k row' h1 hn
  · intro k row' hk hn
    rcases hfo k row' hk with ⟨rfl, rfl⟩ | ⟨e, h1⟩
    · refine ⟨arr, by simpa using o1, by simpa using o2, fun j v hv => ?_⟩
      obtain ⟨y, h5, h6⟩ := o3 j v hv
      obtain ⟨z, rfl⟩ := hpl v (List.mem_of_getElem? hv)
      rw [VRep.p_eq h6] at h5
      exact ⟨z, h5, .d _ _ (.p _)⟩
    obtain ⟨arr', h5, h6, h7⟩ := hs.obj k row' h1 hn
    refine ⟨arr', by simp only [if_neg e]; exact (h4.block _ (hltb h5)).trans h5, by simpa only [if_neg e] using h6, fun j v hv => ?_⟩
    obtain ⟨y, h8, h9⟩ := h7 j v hv
    exact ⟨y, h8, hm v y (V.hasL_false.1 (by
      have := (S.clean_obj hcl h1).2
      rw [V.hasL_false]; exact this) v (List.mem_of_getElem? hv)) h9⟩
  · intro j v y h1 h2
    exact hm v y (S.clean_keep hcl h1) (hs.keep j v y h1 h2)
  · intro k k' row1 row2 h1 n1 h2 n2 h5
    rcases hfo k row1 h1 with ⟨e1, _⟩ | ⟨e1, m1⟩ <;> rcases hfo k' row2 h2 with ⟨e2, _⟩ | ⟨e2, m2⟩
    · rw [e1, e2]
    · simp only [if_pos e1, if_neg e2] at h5
      obtain ⟨arr', h6, _⟩ := hs.obj k' row2 m2 n2
      have := hltb h6
      omega
    · simp only [if_pos e2, if_neg e1] at h5
      obtain ⟨arr', h6, _⟩ := hs.obj k row1 m1 n1
      have := hltb h6
      omega
    simp only [if_neg e1, if_neg e2] at h5
    exact hs.inj k k' _ _ m1 n1 m2 n2 h5
  · intro k row' h1 n1
    rcases hfo k row' h1 with ⟨rfl, _⟩ | ⟨e1, h1⟩
    · simp only [if_true]; exact Nat.le_trans hs.below.size hnew
    simp only [if_neg e1]; exact hs.base k row' h1 n1
  cases h3 with
  | tup _ cs hl hh =>
    refine .tup _ cs hl fun j u z hu hz => ?_
    match j, hu with
    | 0, hu =>
      simp only [List.getElem?_cons_zero, Option.some.injEq] at hu
      subst hu
      have h5 := hh 0 (.own R 1 len false) z rfl hz
      have hG : (if R = R then g' R else g R) = g' R := by simp
      cases h5 with
      | own _ _ _ h6 h7 =>
        have := VRep.own (w := w') (q := qt c ((R, (⟨ty, l, false, 1⟩ : Row)) :: s.H) (fun k => if k = R then g' R else g k)) (g := fun k => if k = R then g' R else g k) R 1 len (by simpa using h6) (by simpa using h7)
        simpa using this
    | 1, hu =>
      simp only [List.getElem?_cons_succ, List.getElem?_cons_zero, Option.some.injEq] at hu
      subst hu
      rw [VRep.p_eq (hh 1 (.i e) z rfl hz)]
      exact .d _ _ (.p _)
    | j + 2, hu => simp at hu
theorem fam_hasL {k : Nat} : ∀ (L : List β) (base : Nat), V.hasL k (F.cells base L) = true → ∃ p, p < L.length ∧ k = base + p
  | [], base, h => by simp [Fam.cells, V.hasL] at h
  | x :: L, base, h => by
    simp only [Fam.cells, hasL_append, hasL_dmap, Bool.false_or, V.hasL, Fam.ownV, V.has, Bool.or_eq_true, beq_iff_eq] at h
    rcases h with h | h
    · exact ⟨0, by simp, by omega⟩
    obtain ⟨p, h1, h2⟩ := fam_hasL L (base + 1) h
    exact ⟨p + 1, by simp; omega, by omega⟩
theorem fam_closed {L : List β} {base rb : Nat} {row : Row} (hc : row.cells = F.cells base L) : ∀ r row' k, fnd ((rb, row) :: F.objs base L) r = some row' → V.hasL k row'.cells = true → ∃ row'', (k, row'') ∈ (rb, row) :: F.objs base L := by
  intro r row' k hr hk
  rw [fnd] at hr
  split at hr
  · cases hr
    rw [hc] at hk
    obtain ⟨p, h1, rfl⟩ := fam_hasL L base hk
    have := Fam.objs_get (F := F) L base p
    rw [List.getElem?_eq_getElem h1] at this
    exact ⟨_, List.mem_cons_of_mem _ (fnd_mem this)⟩
  obtain ⟨p, x, rfl, _, rfl⟩ := Fam.objs_inv hr
  rw [Fam.row_hasL] at hk; cases hk
theorem objs_ge : ∀ (L : List β) (base : Nat) (x : Nat × Row), x ∈ F.objs base L → base ≤ x.1
  | [], base, x, h => by simp [Fam.objs] at h
  | y :: L, base, x, h => by
    simp only [Fam.objs, List.mem_cons] at h
    rcases h with rfl | h
    · exact Nat.le_refl _
    have := objs_ge L (base + 1) x h
    omega
/-- A state that speaks of low names only. -/
theorem clean_hi {b : Nat} (hT : s.T.all (fun x => x.2.low b) = true) (hH : s.H.all (fun x => decide (x.1 < b) && V.lowL b x.2.cells) = true) (hK : V.lowL b s.K = true) {r : Nat} (hr : b ≤ r) : s.clean r = true := by
  simp only [S.clean, Bool.and_eq_true, List.all_eq_true, Bool.not_eq_true']
  refine ⟨⟨fun x hx => V.low_has hr _ (List.all_eq_true.1 hT x hx), fun x hx => ?_⟩, V.lowL_has hr _ hK⟩
  have := List.all_eq_true.1 hH x hx
  simp only [Bool.and_eq_true, decide_eq_true_eq] at this
  exact ⟨by simp; omega, V.lowL_has hr _ this.2⟩
theorem clean_fam {b base rb : Nat} {row : Row} {L : List β} (hT : s.T.all (fun x => x.2.low b) = true) (hH : s.H.all (fun x => decide (x.1 < b) && V.lowL b x.2.cells) = true) (hK : V.lowL b s.K = true) (h1 : b ≤ rb) (h2 : b ≤ base) : ((rb, row) :: F.objs base L).all (fun x => s.clean x.1) = true := by
  rw [List.all_eq_true]
  intro x hx
  rcases List.mem_cons.1 hx with rfl | hx
  · exact clean_hi hT hH hK h1
  exact clean_hi hT hH hK (Nat.le_trans h2 (objs_ge L base x hx))
/-- The new objects of a call come to stand ahead of the slices. -/
theorem Less.rot {F : Fam β} {n base : Nat} {T : List (Nat × V)} {x : Nat × Row} {H : List (Nat × Row)} {L : List β} {K : List V} (hlow : H.all (fun x => decide (x.1 < base)) = true) : Less ⟨n, T, x :: (H ++ F.objs base L), K⟩ ⟨n, T, x :: (F.objs base L ++ H), K⟩ := by
  refine ⟨rfl, fun i v h => ⟨v, h, .refl _⟩, fun r row h => ?_, fun j v h => ⟨v, h, .refl _⟩⟩
  refine ⟨row, ?_, rfl, rfl, rfl, fun j v hv => ⟨v, hv, .refl _⟩⟩
  have h : fnd (x :: (H ++ F.objs base L)) r = some row := h
  show fnd (x :: (F.objs base L ++ H)) r = some row
  rw [fnd] at h ⊢
  split at h
  · rename_i e; rw [if_pos e]; exact h
  rename_i e
  rw [if_neg e]
  rw [fnd_app] at h ⊢
  cases hl : fnd H r with
  | some row2 =>
    rw [hl] at h
    have hlt : r < base := by have := List.all_eq_true.1 hlow _ (fnd_mem hl); simpa using this
    cases ho : fnd (F.objs base L) r with
    | some row3 => obtain ⟨p, y, rfl, _, _⟩ := Fam.objs_inv ho; omega
    | none => exact h
  | none =>
    rw [hl] at h
    have h : fnd (F.objs base L) r = some row := h
    rw [h]
theorem AW.famFreezeN {code : Code} {Q : Exit → S → Prop} (lits : List (Nat × Row)) (rb : Nat) {m base : Nat} {L : List β} {row : Row} (hH : s.H = lits ++ F.objs base L) (hr : fnd lits rb = some row) (hn : row.nil = decide (L.length = 0)) (hc : row.cells = F.cells base L) (hm : ∀ x, (F.pre x).length = m) (hrow : ∀ x, ∀ l ∈ F.it x, l.length = F.sz) (hbt : ∀ x ∈ L, (F.it x).length * F.bt ≤ 140737488355328) (hlow : lits.all (fun x => decide (x.1 < base)) = true)
    (hlo : ∀ x ∈ lits, x.1 ≠ rb → ∀ r, base ≤ r → V.hasL r x.2.cells = false) (hT : s.T.all (fun x => x.2.low base) = true) (hK : V.lowL base s.K = true)
    (h : AW c code Q ⟨s.n, s.T, (rb, { row with cells := L.flatMap fun x => (F.data x).map V.d }) :: lits, s.K⟩) : AW c code Q s := by
  by_cases h0 : L = []
  · subst h0
    refine AW.less (s' := ⟨s.n, s.T, (rb, { row with cells := [] }) :: lits, s.K⟩) ⟨rfl, fun i v h => ⟨v, h, .refl _⟩, fun r row' h => ?_, fun j v h => ⟨v, h, .refl _⟩⟩ h
    have h : fnd ((rb, { row with cells := ([] : List V) }) :: lits) r = some row' := h
    refine ⟨row', ?_, rfl, rfl, rfl, fun j v hv => ⟨v, hv, .refl _⟩⟩
    have e0 : row = { row with cells := ([] : List V) } := by
      cases row
      simp only at hc
      rw [hc]; rfl
    rw [hH, fnd_app]
    rw [fnd] at h
    by_cases e : rb = r
    · rw [if_pos (by simpa using e)] at h
      have h := Option.some.inj h
      rw [← e, hr, ← h]
      exact congrArg some e0
    rw [if_neg (by simpa using e)] at h
    rw [h]
  exact AW.famFreeze lits rb hH hr (by rw [hn]; simp [h0]) hc hm hrow hbt hlow hlo hT hK h
end
theorem rd_load_famE {β : Type} {F : Fam β} {c : Cx} {s : S} {o : Oper} {t : TypeId} {d : TypeDesc} {x : Operand} {rb k p m base : Nat} {row : Row} {L : List β} {x0 : β} {v : V} (hu : c.P.underlying t = some d) (hd : isAggD d = false) (ho : o.op = .load t x) (hx : s.ev x = some (.ref rb k)) (hr : fnd s.H rb = some row) (hn : row.nil = false) (hc : row.cells = F.cells base L) (hm : ∀ x, (F.pre x).length = m) (hk : k = p * (m + 1) + m) (hp : L[p]? = some x0) (he : F.ownV (base + p) x0 = v) : RD c o s v := by
  subst he; exact rd_load_fam hu hd ho hx hr hn hc hm hk hp
end Go.Proofs.YthiknkcigcglkaaGreatDoor
