/- Part 7 of what the law LeastMakes rests on. -/
import Derived.Test.YthiknkcigcglkaaGreatDoorPkLe1
import Derived.Test.YthiknkcigcglkaaGreatDoorPkLe2
import Derived.Test.YthiknkcigcglkaaGreatDoorPkLe3
import Derived.Test.YthiknkcigcglkaaGreatDoorPkLe4
import Derived.Test.YthiknkcigcglkaaGreatDoorPkLe5
import Derived.Test.YthiknkcigcglkaaGreatDoorPkLe6
namespace Go.Proofs.YthiknkcigcglkaaGreatDoor
open Go.RowKit
set_option linter.unusedSimpArgs false
set_option linter.unusedVariables false
set_option maxRecDepth 100000
set_option maxHeartbeats 8000000
theorem am_place (l : List Nat) (x : Int) : Fn Tryz.prog 88 [.d (.sl 1 8 (l.map encN)), .i x] (fun v => v = .i (pl l x)) := by
 refine Fn.sl 0 rfl fun hb => ?_
 obtain ⟨n, hn⟩ : ∃ n, l.length = n := ⟨_, rfl⟩
 rw [List.length_map, hn] at hb
 refine Fn.intro (n := 19) ⟨Tryz.func88, rfl, rfl, rfl, rfl⟩ zT8 zT16 fun w0 out => ?_
 apply AW.sr
 refine AL.z ?_
 apply AL.nil
 try simp only [thenS, S.put, enum, List.nil_append, List.cons_append, List.append_nil, Nat.zero_add, Nat.reduceAdd]
 apply AW.seq
 apply AW.sr
 refine AL.z ?_
 apply AL.nil
 try simp only [nd]
 apply AW.block
 refine AW.loop (fun s' => ∃ k : Nat, k ≤ n ∧ (∀ (j z : Nat), j < k → l[j]? = some z → (z : Int) ≠ x) ∧ s' = ⟨19, [(0, .d (.sl 1 8 (l.map encN))), (1, .i x), (5, .i k)], [], []⟩) (fun s' => n - s'.nat 5) ⟨_, ?_, 0, by omega, fun j z h => absurd h zT15, rfl⟩ ?_
 ·exact Less.a0
 rintro s' ⟨k, hk, hno, rfl⟩
 by_cases hlt : k < n
 ·obtain ⟨y, hy⟩ := get_lt hn hlt
  by_cases he : (y : Int) = x
  ·skip
   apply AW.seq
   apply AW.sr
   iterate 4 refine AL.z ?_
   apply AL.nil
   try simp only [nd]
   refine AW.condT rfl ?_
   apply AW.skip
   try simp only [thenS]
   apply AW.seq
   apply AW.block
   apply AW.sr
   iterate 6 refine AL.z ?_
   apply AL.nil
   try simp only [nd]
   refine AW.condT rfl ?_
   apply AW.sr
   iterate 2 refine AL.z ?_
   apply AL.nil
   try simp only [nd]
   apply AW.ret
   exact ⟨[_], ⟨rfl, trivial⟩, by rw [pl_some l x k y hy he hno]; rfl, by simp [tupOf, V.pure, V.has]⟩
  skip
  apply AW.seq
  apply AW.sr
  iterate 4 refine AL.z ?_
  apply AL.nil
  try simp only [nd]
  refine AW.condT rfl ?_
  apply AW.skip
  try simp only [thenS]
  apply AW.seq
  apply AW.block
  apply AW.sr
  iterate 6 refine AL.z ?_
  apply AL.nil
  try simp only [nd]
  refine AW.condF rfl ?_
  apply AW.skip
  try simp only [thenS]
  apply AW.region
  iterate 3 refine AL.z ?_
  apply AL.nil
  try simp only [nd]
  refine ⟨_, ?_, ⟨k + 1, by omega, fun j z hj hz => ?_, rfl⟩, ?_⟩
  ·exact Less.a0
  ·by_cases e : j = k
   ·subst e
    rw [hy] at hz
    simp only [Option.some.injEq] at hz
    subst hz
    exact he
   exact hno j z zT15 hz
  simp [S.nat, fnd]; omega
 have hE : pl l x = -1 := pl_none l x fun y hy => by
  obtain ⟨j, hj⟩ := List.getElem?_of_mem hy
  exact hno j y (by have := (List.getElem?_eq_some_iff.1 hj).1; omega) hj
 apply AW.seq
 apply AW.sr
 iterate 4 refine AL.z ?_
 apply AL.nil
 try simp only [nd]
 refine AW.condF rfl ?_
 refine AW.exit ?_
 try simp only [thenS, inBlockS, ↓reduceIte, Nat.reduceEqDiff]
 apply AW.sr
 refine AL.z ?_
 apply AL.nil
 try simp only [nd]
 apply AW.ret
 exact ⟨[_], ⟨rfl, trivial⟩, by rw [hE]; rfl, by simp [tupOf, V.pure, V.has]⟩
theorem aheadL_len {m : Mach} (h : machE m = 0) : (aheadL m).length = m.states.length := by unfold aheadL; rw [if_pos h, rchL_len]
theorem backL_len {m : Mach} (h : machE m = 0) : (backL m).length = m.states.length := by unfold backL; rw [if_pos h, rchL_len]
theorem tKeep_of {m : Mach} {q : Nat} {a b : Bool} (ha : (aheadL m)[q]? = some a) (hb : (backL m)[q]? = some b) : tKeep m q = (a && b) := by simp [tKeep, List.getD_eq_getElem?_getD, ha, hb]
theorem am_Trimmed0 (m : Mach) : Fn Tryz.prog 45 [mV m] (fun v => (machE m ≠ 0 ∧ v = .tup [.agg [.i 0, .nil], .i (machE m)]) ∨ (machE m = 0 ∧ v = .tup [mV (trimM m), .i (machE m)])) := by
 refine Fn.mach m 0 rfl fun hb hal => ?_
 by_cases h0 : machE m = 0
 ·obtain ⟨hz1, hz2, hz3, hz⟩ := machE_zero h0
  have hT : trimM m = ⟨pl (tKept m) m.start, (tKept m).map fun q => tState (tKept m) (m.states.getD q ⟨0, []⟩)⟩ := by unfold trimM; rw [if_pos h0]
  have hAl := aheadL_len h0
  have hBl := backL_len h0
  obtain ⟨A, hA⟩ : ∃ A, aheadL m = A := ⟨_, rfl⟩
  obtain ⟨B, hB⟩ : ∃ B, backL m = B := ⟨_, rfl⟩
  have hK : ∀ q a b, A[q]? = some a → B[q]? = some b → tKeep m q = (a && b) := fun q a b ha hb => tKeep_of (by rw [hA]; exact ha) (by rw [hB]; exact hb)
  have hkept : tKept m = (List.range m.states.length).filter (tKeep m) := rfl
  obtain ⟨K, hKd⟩ : ∃ K, tKeep m = K := ⟨_, rfl⟩
  obtain ⟨kept, hkd⟩ : ∃ kept, tKept m = kept := ⟨_, rfl⟩
  obtain ⟨T, hTd⟩ : ∃ T, trimM m = T := ⟨_, rfl⟩
  rw [hKd] at hK hkept
  rw [hkd] at hkept hT
  rw [hTd] at hT ⊢
  obtain ⟨st, sts⟩ := m
  simp only at hz1 hz2 hz3 hz hb hal hAl hBl hkept hT
  rw [hA] at hAl
  rw [hB] at hBl
  obtain ⟨n, hn⟩ : ∃ n, sts.length = n := ⟨_, rfl⟩
  rw [hn] at hz1 hz3 hz hb hAl hBl hkept
  refine Fn.intro (n := 104) ⟨Tryz.func45, rfl, rfl, rfl, rfl⟩ zT8 zT16 fun w0 out => ?_
  apply AW.sr
  refine AL.sm rfl (sm_box 1 rfl rfl rfl rfl rfl) ?_
  refine AL.sm rfl (sm_alloc (l := [.d (.p (.int .i64 0)), .d (.p (.slice none 0 0))]) 2 inf24 rfl rfl rfl rfl) ?_
  refine AL.z ?_
  apply AL.nil
  try simp only [nd, setL, V.cs, nz, Nat.reduceAdd, nm, ns, enum]
  apply AW.sr
  refine AL.z ?_
  refine AL.call (post := ?pc4) rfl (sm_call (args := [_]) ?hc4 ⟨Tryz.func86, rfl, rfl, rfl, rfl⟩ rfl rfl rfl rfl) ?_
  case hc4 => exact Fn.eqv (am_AheadOf ⟨st, sts⟩) (by rw [hA, h0])
  rintro _ rfl -
  try dsimp only
  iterate 5 refine AL.z ?_
  apply AL.nil
  try simp only [nd, setL, V.cs, nz, Nat.reduceAdd, nm, ns]
  apply AW.seq
  apply AW.sr
  iterate 2 refine AL.z ?_
  apply AL.nil
  try simp only [nd]
  refine AW.condF rfl ?_
  apply AW.skip
  try simp only [thenS]
  apply AW.sr
  refine AL.z ?_
  refine AL.call (post := ?pc5) rfl (sm_call (args := [_]) ?hc5 ⟨Tryz.func87, rfl, rfl, rfl, rfl⟩ rfl rfl rfl rfl) ?_
  case hc5 => exact Fn.eqv (am_BackOf ⟨st, sts⟩) (by rw [hB, h0])
  rintro _ rfl -
  try dsimp only
  iterate 5 refine AL.z ?_
  apply AL.nil
  try simp only [nd, setL, V.cs, nz, Nat.reduceAdd, nm, ns]
  apply AW.sr
  refine AL.z ?_
  apply AL.nil
  try simp only [nd]
  apply AW.seq
  apply AW.seq
  refine AW.adopt 8 100 1 3 rfl (by simp [S.clean, V.has, V.hasL]) ?_
  apply AW.region
  refine AL.z ?_
  apply AL.nil
  try simp only [nd]
  apply AW.block
  refine AW.loop (fun s' => ∃ k : Nat, k ≤ n ∧ s' = ⟨104, [(1, .ref 1 0), (2, .ref 2 0), (4, .d (boolsD A)), (6, .d (boolsD B)), (8, .own 100 1 ((List.range k).filter K).length (decide (((List.range k).filter K).length = 0))), (9, .i k)], [(1, ⟨24, [.i st, .d (stsD sts)], false, 0⟩), (2, ⟨24, [.i 0, .nil], false, 0⟩), (100, ⟨3, ((List.range k).filter K).map V.n, decide (((List.range k).filter K).length = 0), 1⟩)], []⟩) (fun s' => n - s'.nat 9) ⟨_, ?_, 0, by omega, rfl⟩ ?_
  ·exact Less.a0
  rintro s' ⟨k, hk, rfl⟩
  have hlk := filter_range_len K k
  by_cases hlt : k < n
  ·obtain ⟨a, ha⟩ := get_lt hAl hlt
   obtain ⟨b, hb'⟩ := get_lt hBl hlt
   have hKk := hK k a b ha hb'
   have hsk := filter_range_succ K k
   cases a with
   | true =>
    cases b with
    | true =>
     simp only [hKk, Bool.and_self, if_true] at hsk
     apply AW.seq
     apply AW.sr
     iterate 5 refine AL.z ?_
     apply AL.nil
     try simp only [nd]
     refine AW.condT rfl ?_
     apply AW.skip
     try simp only [thenS]
     apply AW.seq
     apply AW.block
     apply AW.sr
     iterate 5 refine AL.z ?_
     iterate 4 refine AL.zy ?_
     refine AL.z ?_
     apply AL.nil
     try simp only [nd]
     refine AW.condT rfl ?_
     apply AW.region
     iterate 2 refine AL.z ?_
     refine AL.sm rfl (sm_slice (vs := [(0, _)]) (zs := [.d (.p (.int .i64 0))]) 49 Tryz.underlying42 inf3 rfl rfl zT14 zT14 zT14 rfl rfl rfl rfl zT1 rfl rfl) ?_
     refine AL.st rfl (st_appendF Tryz.underlying42 inf3 rfl zT14 rfl rfl rfl rfl rfl rfl zT5 zT1 rfl rfl rfl rfl rfl rfl rfl zT14 zT15 zT15 rfl) ?_
     simp only [S.forget, S.put, S.newObj, junkIf, V.has, V.hasL, nh, hasL_flat, hasL_append, List.map_cons, List.map_nil, List.filter_cons, List.filter_nil, Nat.reduceBNe, Nat.reduceBEq, eq_self, bne_self_eq_false,  Bool.not_true, Bool.not_false, Bool.or_false, Bool.or_true, Bool.false_or, Bool.true_or, if_true, if_false, Bool.false_eq_true, ite_true, ite_false, ↓reduceIte, beq_self_eq_true, Nat.reduceEqDiff]
     refine AL.z ?_
     apply AL.nil
     try simp only [nd, setL, V.cs, nz, Nat.reduceAdd, nm, ns]
     apply AW.region
     iterate 3 refine AL.z ?_
     apply AL.nil
     try simp only [nd]
     refine ⟨_, ?_, ⟨k + 1, by omega, rfl⟩, ?_⟩
     ·rw [hsk]
      simp only [List.map_append, List.map_cons, List.map_nil, List.length_append, List.length_cons, List.length_nil, Nat.zero_add]
      exact Less.a0
     simp [S.nat, fnd]; omega
    | false =>
     simp only [hKk, Bool.and_false, Bool.false_eq_true, if_false, List.append_nil] at hsk
     apply AW.seq
     apply AW.sr
     iterate 5 refine AL.z ?_
     apply AL.nil
     try simp only [nd]
     refine AW.condT rfl ?_
     apply AW.skip
     try simp only [thenS]
     apply AW.seq
     apply AW.block
     apply AW.sr
     iterate 5 refine AL.z ?_
     iterate 4 refine AL.zy ?_
     refine AL.z ?_
     apply AL.nil
     try simp only [nd]
     refine AW.condF rfl ?_
     apply AW.skip
     try simp only [thenS]
     apply AW.region
     iterate 3 refine AL.z ?_
     apply AL.nil
     try simp only [nd]
     refine ⟨_, ?_, ⟨k + 1, by omega, rfl⟩, ?_⟩
     ·rw [hsk]
      exact Less.a0
     simp [S.nat, fnd]; omega
   | false =>
    simp only [hKk, Bool.false_and, Bool.false_eq_true, if_false, List.append_nil] at hsk
    apply AW.seq
    apply AW.sr
    iterate 5 refine AL.z ?_
    apply AL.nil
    try simp only [nd]
    refine AW.condT rfl ?_
    apply AW.skip
    try simp only [thenS]
    apply AW.seq
    apply AW.block
    apply AW.sr
    iterate 5 refine AL.z ?_
    refine AL.no rfl rfl rfl rfl ?_
    refine AL.no rfl rfl rfl rfl ?_
    refine AL.no rfl rfl rfl rfl ?_
    refine AL.no rfl rfl rfl rfl ?_
    refine AL.z ?_
    apply AL.nil
    try simp only [nd]
    refine AW.condF rfl ?_
    apply AW.skip
    try simp only [thenS]
    apply AW.region
    iterate 3 refine AL.z ?_
    apply AL.nil
    try simp only [nd]
    refine ⟨_, ?_, ⟨k + 1, by omega, rfl⟩, ?_⟩
    ·rw [hsk]
     exact Less.a0
    simp [S.nat, fnd]; omega
  obtain rfl : k = n := by omega
  rw [← hkept] at hlk ⊢
  have hkn : ∀ q ∈ kept, q < k := by
   intro q hq
   rw [hkept] at hq
   exact List.mem_range.1 (List.mem_filter.1 hq).1
  obtain ⟨c, hc⟩ : ∃ c, kept.length = c := ⟨_, rfl⟩
  rw [hc] at hlk ⊢
  apply AW.seq
  apply AW.sr
  iterate 5 refine AL.z ?_
  apply AL.nil
  try simp only [nd]
  refine AW.condF rfl ?_
  refine AW.exit ?_
  try simp only [thenS, inBlockS, ↓reduceIte, Nat.reduceEqDiff]
  apply AW.seq
  refine AW.freeze 8 8 (kept.map encN) rfl rfl rfl (by rw [List.length_map, hc]) zT15 (rows1 rfl) ?_
  refine AW.less (s' := ⟨104, [(1, .ref 1 0), (2, .ref 2 0), (8, .d (.sl 1 8 (kept.map encN)))], [(1, ⟨24, [.i st, .d (stsD sts)], false, 0⟩), (2, ⟨24, [.i 0, .nil], false, 0⟩)], []⟩) Less.a0 ?_
  -- left over: am_place kept st
  apply AW.region
  iterate 3 refine AL.z ?_
  refine AL.call (post := ?pc6) rfl (sm_call (args := [_, _]) ?hc6 ⟨Tryz.func88, rfl, rfl, rfl, rfl⟩ rfl rfl rfl rfl) ?_
  case hc6 => exact am_place kept st
  rintro _ rfl -
  try dsimp only
  refine AL.rp rfl rfl (rp_build (vs := [(0, _)]) (zs := [.d (.p (.int .i64 0)), .d (.p (.slice none 0 0))]) pl24 inf24 rfl rfl rfl rfl) ?_
  refine AL.sm rfl (sm_alloc (l := [.d (.p (.int .i64 0)), .d (.p (.slice none 0 0))]) 10 inf24 rfl rfl rfl rfl) ?_
  refine AL.y ?_
  apply AL.nil
  try simp only [nd, setL, V.cs, nz, Nat.reduceAdd, nm, ns]
  apply AW.seq
  apply AW.seq
  refine AW.adoptH 10 1 101 2 35 rfl rfl rfl zT4 ?_
  apply AW.region
  refine AL.z ?_
  apply AL.nil
  try simp only [nd]
  apply AW.block
  refine AW.loop (fun s' => ∃ j : Nat, j ≤ c ∧ s' = ⟨104, [(1, .ref 1 0), (2, .ref 2 0), (8, .d (.sl 1 8 (kept.map encN))), (10, .ref 10 0), (11, .i j)], [(1, ⟨24, [.i st, .d (stsD sts)], false, 0⟩), (2, ⟨24, [.i 0, .nil], false, 0⟩), (10, ⟨24, [.i (pl kept st), .own 101 2 j (decide (j = 0))], false, 0⟩), (101, ⟨35, (((kept.map fun q => tState kept (sts.getD q ⟨0, []⟩)).take j).flatMap stV2), decide (j = 0), 2⟩)], []⟩) (fun s' => c - s'.nat 11) ⟨_, ?_, 0, by omega, rfl⟩ ?_
  ·exact Less.a0
  rintro s' ⟨j, hj, rfl⟩
  have hEl : (kept.map fun q => tState kept (sts.getD q ⟨0, []⟩)).length = c := by simp [hc]
  by_cases hlj : j < c
  ·obtain ⟨q, hq⟩ := get_lt hc hlj
   have hqk := hkn q (List.mem_of_getElem? hq)
   obtain ⟨x, hx⟩ := get_lt hn hqk
   have hxe : (kept.map fun q => tState kept (sts.getD q ⟨0, []⟩))[j]? = some (tState kept x) := by simp [hq, List.getD_eq_getElem?_getD, hx]
   have hsn := congrArg (List.flatMap stV2) (take_snoc hxe)
   rw [List.flatMap_append, List.flatMap_cons, List.flatMap_nil, List.append_nil] at hsn
   have hfl : (((kept.map fun q => tState kept (sts.getD q ⟨0, []⟩)).take j).flatMap stV2).length = j * 2 := by rw [flat_len (sz := 2) (fun _ => rfl), List.length_take]; omega
   obtain ⟨la, hla⟩ : ∃ n, x.arcs.length = n := ⟨_, rfl⟩
   have hla' := Nat.le_trans (arcN_mem sts x (List.mem_of_getElem? hx)) hz2
   rw [hla] at hla'
   apply AW.seq
   apply AW.sr
   iterate 4 refine AL.z ?_
   apply AL.nil
   try simp only [nd]
   refine AW.condT rfl ?_
   apply AW.skip
   try simp only [thenS]
   apply AW.seq
   apply AW.block
   apply AW.seq
   refine AW.draw [(0, true), (1, true), (2, true), (3, true), (4, true), (5, true), (6, true), (7, true), (8, false), (9, false)] (fun i => !([9] : List Nat).contains i) 10 zT12 zT12 rfl zT12 ?_
   iterate 8 refine AD1.z ?_
   refine AD1.go ?_
   refine AD2.sm rfl rfl (sm_alloc (l := [.d (.p (.int .i64 0)), .d (.p (.slice none 0 0))]) 12 inf35 rfl zT1 rfl rfl) ?_
   refine AD2.go ?_
   refine AD3.st rfl rfl rfl (st_store_any inf35 rfl rfl rfl rfl rfl rfl rfl rfl zT3 rfl) ?_
   refine AD3.nil ?_
   try simp only [nd, setL, V.cs, nz, Nat.reduceAdd, nm, ns]
   apply AW.sr
   refine AL.z ?_
   apply AL.nil
   try simp only [nd]
   apply AW.seq
   apply AW.seq
   refine AW.adopt 13 102 4 47 rfl (by simp [S.clean, V.has, V.hasL, -List.map_take]) ?_
   apply AW.region
   refine AL.z ?_
   apply AL.nil
   try simp only [nd]
   apply AW.block
   refine AW.loop (fun s' => ∃ i : Nat, i ≤ la ∧ s' = ⟨104, [(1, .ref 1 0), (2, .ref 2 0), (8, .d (.sl 1 8 (kept.map encN))), (10, .ref 10 0), (11, .i j), (12, .ref 12 0), (13, .own 102 4 ((x.arcs.take i).filterMap (tArc kept)).length (decide (((x.arcs.take i).filterMap (tArc kept)).length = 0))), (14, .i i)], [(1, ⟨24, [.i st, .d (stsD sts)], false, 0⟩), (2, ⟨24, [.i 0, .nil], false, 0⟩), (10, ⟨24, [.i (pl kept st), .own 101 2 j (decide (j = 0))], false, 0⟩), (101, ⟨35, (((kept.map fun q => tState kept (sts.getD q ⟨0, []⟩)).take j).flatMap stV2), decide (j = 0), 2⟩), (12, ⟨35, [.i x.fin, .d (arsD x.arcs)], false, 0⟩), (102, ⟨47, ((x.arcs.take i).filterMap (tArc kept)).flatMap arV2, decide (((x.arcs.take i).filterMap (tArc kept)).length = 0), 4⟩)], []⟩) (fun s' => la - s'.nat 14) ⟨_, ?_, 0, by omega, rfl⟩ ?_
   ·exact Less.a0
   rintro s' ⟨i, hi, rfl⟩
   have hfm : ((x.arcs.take i).filterMap (tArc kept)).length ≤ la := by
    have := List.length_filterMap_le (tArc kept) (x.arcs.take i)
    rw [List.length_take] at this
    omega
   have hfl2 : (((x.arcs.take i).filterMap (tArc kept)).flatMap arV2).length = ((x.arcs.take i).filterMap (tArc kept)).length * 4 := flat_len (sz := 4) (fun _ => rfl)
   by_cases hil : i < la
   ·obtain ⟨y, hy⟩ := get_lt hla hil
    have hsn2 := filterMap_snoc (tArc kept) hy
    by_cases hp : 0 ≤ pl kept y.t
    ·have hty : tArc kept y = some ⟨y.i, y.o, y.w, pl kept y.t⟩ := by unfold tArc; rw [if_pos hp]
     rw [hty, Option.toList] at hsn2
     apply AW.seq
     apply AW.sr
     iterate 5 refine AL.z ?_
     apply AL.nil
     try simp only [nd]
     refine AW.condT rfl ?_
     apply AW.skip
     try simp only [thenS]
     apply AW.seq
     apply AW.block
     apply AW.sr
     iterate 5 refine AL.z ?_
     refine AL.sm rfl (sm_alloc (l := [.d (.p (.int .i64 0)), .d (.p (.int .i64 0)), .d (.p (.int .i64 0)), .d (.p (.int .i64 0))]) 15 inf47 rfl zT1 rfl rfl) ?_
     refine AL.y ?_
     apply AL.nil
     try simp only [nd, setL, V.cs, nz, Nat.reduceAdd, nm, ns]
     apply AW.sr
     iterate 3 refine AL.z ?_
     refine AL.call (post := ?pc7) rfl (sm_call (args := [_, _]) ?hc7 ⟨Tryz.func88, rfl, rfl, rfl, rfl⟩ rfl rfl rfl rfl) ?_
     case hc7 => exact am_place kept y.t
     rintro _ rfl -
     try dsimp only
     refine AL.z ?_
     (refine AL.st rfl (st_store inf3 rfl rfl rfl rfl rfl rfl rfl zT7 rfl) ?_)
     apply AL.nil
     try simp only [nd, setL, V.cs, nz, Nat.reduceAdd, nm, ns]
     apply AW.sr
     iterate 3 refine AL.z ?_
     apply AL.nil
     try simp only [nd]
     refine AW.condT rfl ?_
     apply AW.region
     iterate 2 refine AL.z ?_
     refine AL.sm rfl (sm_slice (vs := [(0, _)]) (zs := [.d (.p (.int .i64 0)), .d (.p (.int .i64 0)), .d (.p (.int .i64 0)), .d (.p (.int .i64 0))]) 92 Tryz.underlying33 inf47 rfl rfl zT14 zT14 zT14 rfl rfl rfl rfl zT1 rfl rfl) ?_
     refine AL.st rfl (st_appendF Tryz.underlying33 inf47 rfl zT14 rfl rfl rfl rfl rfl rfl zT5 zT1 rfl rfl rfl rfl rfl rfl rfl zT14 zT15 zT15 rfl) ?_
     simp only [S.forget, S.put, S.newObj, junkIf, V.has, V.hasL, nh, hasL_flat, hasL_append, List.map_cons, List.map_nil, List.filter_cons, List.filter_nil, Nat.reduceBNe, Nat.reduceBEq, eq_self, bne_self_eq_false,  Bool.not_true, Bool.not_false, Bool.or_false, Bool.or_true, Bool.false_or, Bool.true_or, if_true, if_false, Bool.false_eq_true, ite_true, ite_false, ↓reduceIte, beq_self_eq_true, Nat.reduceEqDiff]
     refine AL.z ?_
     apply AL.nil
     try simp only [nd, setL, V.cs, nz, Nat.reduceAdd, nm, ns]
     apply AW.region
     iterate 3 refine AL.z ?_
     apply AL.nil
     try simp only [nd]
     refine ⟨_, ?_, ⟨i + 1, by omega, rfl⟩, ?_⟩
     ·rw [hsn2]
      simp only [List.flatMap_append, List.flatMap_cons, List.flatMap_nil, List.append_nil, List.length_append, List.length_cons, List.length_nil, Nat.zero_add]
      exact Less.a0
     simp [S.nat, fnd]; omega
    have hty : tArc kept y = none := by unfold tArc; rw [if_neg hp]
    rw [hty, Option.toList, List.append_nil] at hsn2
    apply AW.seq
    apply AW.sr
    iterate 5 refine AL.z ?_
    apply AL.nil
    try simp only [nd]
    refine AW.condT rfl ?_
    apply AW.skip
    try simp only [thenS]
    apply AW.seq
    apply AW.block
    apply AW.sr
    iterate 5 refine AL.z ?_
    refine AL.sm rfl (sm_alloc (l := [.d (.p (.int .i64 0)), .d (.p (.int .i64 0)), .d (.p (.int .i64 0)), .d (.p (.int .i64 0))]) 15 inf47 rfl zT1 rfl rfl) ?_
    refine AL.y ?_
    apply AL.nil
    try simp only [nd, setL, V.cs, nz, Nat.reduceAdd, nm, ns]
    apply AW.sr
    iterate 3 refine AL.z ?_
    refine AL.call (post := ?pc8) rfl (sm_call (args := [_, _]) ?hc8 ⟨Tryz.func88, rfl, rfl, rfl, rfl⟩ rfl rfl rfl rfl) ?_
    case hc8 => exact am_place kept y.t
    rintro _ rfl -
    try dsimp only
    refine AL.z ?_
    (refine AL.st rfl (st_store inf3 rfl rfl rfl rfl rfl rfl rfl zT7 rfl) ?_)
    apply AL.nil
    try simp only [nd, setL, V.cs, nz, Nat.reduceAdd, nm, ns]
    apply AW.sr
    iterate 3 refine AL.z ?_
    apply AL.nil
    try simp only [nd]
    refine AW.condF rfl ?_
    apply AW.skip
    try simp only [thenS]
    apply AW.region
    iterate 3 refine AL.z ?_
    apply AL.nil
    try simp only [nd]
    refine ⟨_, ?_, ⟨i + 1, by omega, rfl⟩, ?_⟩
    ·rw [hsn2]
     exact Less.a0
    simp [S.nat, fnd]; omega
   have hfull : x.arcs.take i = x.arcs := List.take_of_length_le zT15
   rw [hfull] at hfm hfl2 ⊢
   apply AW.seq
   apply AW.sr
   iterate 5 refine AL.z ?_
   apply AL.nil
   try simp only [nd]
   refine AW.condF rfl ?_
   refine AW.exit ?_
   try simp only [thenS, inBlockS, ↓reduceIte, Nat.reduceEqDiff]
   refine AW.freeze 13 32 ((x.arcs.filterMap (tArc kept)).map arD) rfl rfl rfl (by rw [List.length_map]) zT15 (rowsF (enc := arD) (sz := 4) (l := x.arcs.filterMap (tArc kept)) (fun _ => rfl) rfl) ?_
   refine AW.less (s' := ⟨104, [(1, .ref 1 0), (2, .ref 2 0), (8, .d (.sl 1 8 (kept.map encN))), (10, .ref 10 0), (11, .i j), (12, .ref 12 0), (13, .d (arsD (x.arcs.filterMap (tArc kept))))], [(1, ⟨24, [.i st, .d (stsD sts)], false, 0⟩), (2, ⟨24, [.i 0, .nil], false, 0⟩), (10, ⟨24, [.i (pl kept st), .own 101 2 j (decide (j = 0))], false, 0⟩), (101, ⟨35, (((kept.map fun q => tState kept (sts.getD q ⟨0, []⟩)).take j).flatMap stV2), decide (j = 0), 2⟩), (12, ⟨35, [.i x.fin, .d (arsD x.arcs)], false, 0⟩)], []⟩) Less.a0 ?_
   apply AW.region
   iterate 5 refine AL.z ?_
   refine AL.rp rfl rfl (rp_build (vs := [(0, _), (1, _)]) (zs := [.d (.p (.int .i64 0)), .d (.p (.slice none 0 0))]) pl35 inf35 rfl rfl rfl rfl) ?_
   refine AL.sm rfl (sm_slice (vs := [(0, _)]) (zs := [.d (.p (.int .i64 0)), .d (.p (.slice none 0 0))]) 100 Tryz.underlying22 inf35 rfl rfl zT14 zT14 zT14 rfl rfl rfl rfl zT1 rfl rfl) ?_
   refine AL.st rfl (st_appendF Tryz.underlying22 inf35 rfl zT14 rfl rfl rfl rfl rfl rfl zT5 zT1 rfl rfl rfl rfl rfl rfl rfl zT14 zT15 zT15 rfl) ?_
   simp only [S.forget, S.put, S.newObj, junkIf, V.has, V.hasL, nh, hasL_flat, hasL_append, List.map_cons, List.map_nil, List.filter_cons, List.filter_nil, Nat.reduceBNe, Nat.reduceBEq, eq_self, bne_self_eq_false,  Bool.not_true, Bool.not_false, Bool.or_false, Bool.or_true, Bool.false_or, Bool.true_or, if_true, if_false, Bool.false_eq_true, ite_true, ite_false, ↓reduceIte, beq_self_eq_true, Nat.reduceEqDiff]
   refine AL.z ?_
   (refine AL.st rfl (st_store inf22 rfl rfl rfl rfl rfl rfl rfl zT7 rfl) ?_)
   apply AL.nil
   try simp only [nd, setL, V.cs, nz, Nat.reduceAdd, nm, ns]
   apply AW.region
   iterate 3 refine AL.z ?_
   apply AL.nil
   try simp only [nd]
   refine ⟨_, ?_, ⟨j + 1, by omega, rfl⟩, ?_⟩
   ·rw [hsn]
    exact Less.a0
   simp [S.nat, fnd]; omega
  obtain rfl : j = c := by omega
  rw [List.take_of_length_le zT15]
  apply AW.seq
  apply AW.sr
  iterate 4 refine AL.z ?_
  apply AL.nil
  try simp only [nd]
  refine AW.condF rfl ?_
  refine AW.exit ?_
  try simp only [thenS, inBlockS, ↓reduceIte, Nat.reduceEqDiff]
  apply AW.seq
  refine AW.freezeH 10 1 32 ((kept.map fun q => tState kept (sts.getD q ⟨0, []⟩)).map stD) rfl rfl rfl zT14 rfl rfl (by simp [hc]) zT15 (rowsF (enc := stD) (sz := 2) (l := kept.map fun q => tState kept (sts.getD q ⟨0, []⟩)) (fun _ => rfl) rfl) ?_
  apply AW.region
  refine AL.z ?_
  refine AL.y ?_
  refine AL.z ?_
  apply AL.nil
  try simp only [nd, setL, V.cs, nz, Nat.reduceAdd, nm, ns]
  apply AW.ret
  exact ⟨[_, _], ⟨⟨2, 0, _, _, rfl, rfl, rfl, Tryz.underlying24, .inr ⟨rfl, _, _, _, _, inf24, rfl, rfl, rfl⟩⟩, rfl, trivial⟩, .inr ⟨h0, by rw [hT, h0]; rfl⟩, by simp [tupOf, V.pure, V.has, V.hasL]⟩
 obtain ⟨st, sts⟩ := m
 obtain ⟨e, he⟩ : ∃ e, machE ⟨st, sts⟩ = e := ⟨_, rfl⟩
 obtain ⟨A, hA⟩ : ∃ A, aheadL ⟨st, sts⟩ = A := ⟨_, rfl⟩
 rw [he] at h0 ⊢
 refine Fn.intro (n := 104) ⟨Tryz.func45, rfl, rfl, rfl, rfl⟩ zT8 zT16 fun w0 out => ?_
 apply AW.sr
 refine AL.sm rfl (sm_box 1 rfl rfl rfl rfl rfl) ?_
 refine AL.sm rfl (sm_alloc (l := [.d (.p (.int .i64 0)), .d (.p (.slice none 0 0))]) 2 inf24 rfl rfl rfl rfl) ?_
 refine AL.z ?_
 apply AL.nil
 try simp only [nd, setL, V.cs, nz, Nat.reduceAdd, nm, ns, enum]
 apply AW.sr
 refine AL.z ?_
 refine AL.call (post := ?pc9) rfl (sm_call (args := [_]) ?hc9 ⟨Tryz.func86, rfl, rfl, rfl, rfl⟩ rfl rfl rfl rfl) ?_
 case hc9 => exact Fn.eqv (am_AheadOf ⟨st, sts⟩) (by rw [hA, he])
 rintro _ rfl -
 try dsimp only
 iterate 5 refine AL.z ?_
 apply AL.nil
 try simp only [nd, setL, V.cs, nz, Nat.reduceAdd, nm, ns]
 apply AW.seq
 apply AW.sr
 iterate 2 refine AL.z ?_
 apply AL.nil
 try simp only [nd]
 refine AW.condT rfl ?_
 apply AW.sr
 refine AL.rp rfl rfl (rp_build (vs := []) (zs := [.d (.p (.int .i64 0)), .d (.p (.slice none 0 0))]) pl24 inf24 rfl rfl rfl rfl) ?_
 refine AL.z ?_
 refine AL.y ?_
 refine AL.z ?_
 apply AL.nil
 try simp only [nd, setL, V.cs, nz, Nat.reduceAdd, nm, ns]
 apply AW.ret
 exact ⟨[_, _], ⟨⟨2, 0, _, _, rfl, rfl, rfl, Tryz.underlying24, .inr ⟨rfl, _, _, _, _, inf24, rfl, rfl, rfl⟩⟩, rfl, trivial⟩, .inl ⟨h0, rfl⟩, by simp [tupOf, V.pure, V.has, V.hasL]⟩
section
variable {P : Program} (w : World)
theorem run_append_room_off (t ty e : TypeId) (i : TypeInfo) (ht : P.underlying t = some (.slice e)) (hi : P.info? e = some i)
    (g off sLen sCap : Nat) (cur : Array Value) (hg : w.heap[g]? = some (.cells cur e (0, 0)))
    (a : Addr) (m c : Nat) (news : List Value) (hl : news.length = m * i.size) (hnews : ∀ j u, news[j]? = some u → w.cell? (a.add j) = some u) (h1 : ∀ u ∈ news, u.oneCell' = true)
    (hroom : sLen + m ≤ sCap) (hfit : off + sLen * i.size + news.length ≤ cur.size) :
    (Builtin.append_ #[t, t] ty #[.slice (some ⟨g, off, none⟩) sLen sCap, .slice (some a) m c]).run P w =
      .ok (.slice (some ⟨g, off, none⟩) (sLen + m) sCap) (w.setRow g (cur.toList.take (off + sLen * i.size) ++ news ++ cur.toList.drop (off + sLen * i.size + news.length)).toArray) := by
  have hf := run_firstCells_some (P := P) w i.size m a m c news hl hnews
  have hst := run_storeCells_at P g (off + sLen * i.size) e news 0 cur w hg (by simpa using hfit) h1
  simp only [Nat.add_zero] at hst
  simp [Builtin.append_, run_underlying ht, sizeOf, typeInfo, hi, Builtin.lenOf, hroom, hf, Addr.add_lit, hst]
end
section
variable {c : Cx} {s : S} {o : Oper} {Q : Exit → S → Prop} {α : Type}
theorem rp_len_que {t e : TypeId} {x : Operand} {r sz k n : Nat} (hu : c.P.underlying t = some (.slice e)) (ho : o.op = .call { callee := .builtin .len, args := #[x], argTypes := #[t] }) (hx : s.ev x = some (.que r sz k n)) : RP c o s (.i (n : Int)) := fun g a w hs => by
  have h := hs.ev hx
  generalize hy : a.eval x = y at h
  cases h with
  | que _ _ _ _ ad cap hn hcap h =>
    refine ⟨.int .i64 n, .d _ _ (.p _), fun w' => ?_⟩
    have hn2 : (n : Int) ≤ 9223372036854775807 := by simp only [maxLen] at hcap; omega
    simp [execOp, ho, resolve, invoke, builtin, hy, Builtin.len_, run_underlying hu, goInt, wrap_in (n := (n : Int)) zT15 hn2]
theorem rp_index_que {t e : TypeId} {x i : Operand} {r sz k n j bt : Nat} {z : Value} {n' : Int} {kd : IntKind} (hu : c.P.underlying t = some (.slice e)) (hi : Inf c.P e sz bt z) (ho : o.op = .indexAddr t x i) (hx : s.ev x = some (.que r sz k n)) (hy : s.ev i = some (.d (.p (.int kd n')))) (hk : n' = (j : Int)) (hlt : j < n) : RP c o s (.ref r ((k + j) * sz)) := fun g a w hs => by
  have h := hs.ev hx
  refine ⟨.pointer (some ⟨(g r).1, (k + j) * sz, none⟩), .ref _ _, fun w' => ?_⟩
  generalize hxx : a.eval x = u at h
  cases h with
  | que _ _ _ _ ad cap hn hcap h =>
    obtain ⟨rfl, _⟩ := h zT15
    subst hk
    simp [execOp, ho, hxx, VRep.p_eq (hs.ev hy), Instr.indexAt, run_underlying hu, asIntOf, hlt, run_sizeOf hi, Addr.add, Nat.add_mul]
/-- Without its first elements. -/
theorem rd_slice_que {t e : TypeId} {x y : Operand} {r sz k n j bt : Nat} {z : Value} {n' : Int} {kd : IntKind} (hu : c.P.underlying t = some (.slice e)) (hi : Inf c.P e sz bt z) (ho : o.op = .slice t x (some y) none none) (hx : s.ev x = some (.que r sz k n)) (hy : s.ev y = some (.d (.p (.int kd n')))) (hk : n' = (j : Int)) (hle : j ≤ n) : RD c o s (.que r sz (k + j) (n - j)) := fun g a w hs => by
  subst hk
  have h := hs.ev hx
  have hyv := VRep.p_eq (hs.ev hy)
  generalize hxx : a.eval x = u at h
  cases h with
  | que _ _ _ _ ad cap hn hcap h =>
    refine ⟨.slice (if cap = j then ad else ad.map (·.add (j * sz))) (n - j) (cap - j), .que r sz (k + j) (n - j) _ _ zT15 zT15 fun h0 => ?_, fun w' _ => ?_⟩
    · obtain ⟨rfl, h2⟩ := h zT15
      rw [if_neg zT15]
      exact ⟨by simp [Addr.add, Nat.add_mul], by omega⟩
    have h0 : (0 : Int) ≤ (j : Int) ∧ (j : Int) ≤ (n : Int) := by omega
    simp only [execOp, ho, hxx, hyv, Option.map_some, Option.map_none]
    simp only [Instr.sliceAt, Instr.slice, Sem.run_bind, run_underlying hu, Result.andThen_ok, Instr.sliceBounds, run_sliceBound _ kd _ _ _ h0.1 h0.2, Sem.run_pure, run_sizeOf hi, Int.toNat_natCast]
/-- append onto a queue: it stays where it is, or goes to new memory and begins there. -/
theorem st_append_que {t e : TypeId} {x y : Operand} {r r2 bt : Nat} {z : Value} {row row2 : Row} {pre T : List α} {f : α → V} {q : α} (hu : c.P.underlying t = some (.slice e)) (hi : Inf c.P e 1 bt z) (hzs : z.cells.size = 1)
    (ho : o.op = .call { callee := .builtin .append, args := #[x, y], argTypes := #[t, t] }) (hx : s.ev x = some (.que r 1 pre.length T.length)) (hr : fnd s.H r = some row) (hf : row.nil = false) (hrz : row.sz = 1) (hty : row.ty = e)
    (hl : row.cells = (pre ++ T).map f) (hc : ∀ l : List α, V.hasL r (l.map f) = false) (hy : s.ev y = some (.own r2 1 1 false)) (hr2 : fnd s.H r2 = some row2) (hf2 : row2.nil = false) (hnews : row2.cells.take 1 = [f q]) (hone : (f q).one = true) (h63 : T.length ≤ 1000000) (hbt : bt ≤ 64) (hd : dok s o = true) :
    Step c o s (fun s' => ∃ pre' : List α, s' = S.put ⟨s.n, (s.forget r).T, (r, ⟨e, (pre' ++ (T ++ [q])).map f, false, 1⟩) :: (s.forget r).H, (s.forget r).K⟩ o.dst (.que r 1 pre'.length (T.length + 1))) := by
  intro g a w hs K Q hK
  obtain ⟨i, hi1, hi2, hi3, hi4⟩ := hi.out
  -- the news
  have hyv := hs.ev hy
  obtain ⟨arr2, b1, b2, b3⟩ := hs.obj r2 row2 hr2 hf2
  generalize hyy : a.eval y = yv at hyv
  cases hyv with
  | own _ _ _ hn2 hcap2 =>
  obtain ⟨u, b4, b5⟩ := b3 0 (f q) (by
    have : (row2.cells.take 1)[0]? = some (f q) := by rw [hnews]; rfl
    simpa using this)
  have hnews' : ∀ (j : Nat) (v : Value), [u][j]? = some v → w.cell? ((⟨(g r2).1, 0, none⟩ : Addr).add j) = some v := by
    intro j v hv
    match j, hv with
    | 0, hv =>
      simp at hv
      subst hv
      rw [addr_add, Nat.zero_add]
      exact (cell_of_row w _ _ _ _ _ b1).trans b4
    | n + 1, hv => simp at hv
  have h1 : ∀ v ∈ [u], v.oneCell' = true := by
    intro v hv
    simp at hv
    subst hv
    exact b5.one hone
  -- the queue
  have hxv := hs.ev hx
  obtain ⟨arr, a1, a2, a3⟩ := hs.obj r row hr hf
  have hlt : (g r).1 < w.heap.size := (Array.getElem?_eq_some_iff.1 a1).1
  have hat : ∀ (j : Nat) (x : α), (pre ++ T)[j]? = some x → ∃ y, arr[j]? = some y ∧ VRep w (qt c s.H g) g (f x) y := fun j x hx => a3 j (f x) (by rw [hl, List.getElem?_map, hx]; rfl)
  have hsz : arr.size = (g r).2 := by rw [a2 zT15, hrz, Nat.mul_one]
  generalize hxx : a.eval x = xv at hxv
  cases hxv with
  | que _ _ _ _ ad cap hn hcap hca =>
  by_cases hroom : T.length + 1 ≤ cap
  · obtain ⟨rfl, hc2⟩ := hca zT15
    rw [Nat.mul_one] at hxx
    have hfit : pre.length + T.length * i.size + [u].length ≤ arr.size := by rw [hi2, hsz]; simp; omega
    have hrun := run_append_room_off (P := c.P) w t o.type e i hu hi1 (g r).1 pre.length T.length cap arr (by rw [← hty]; exact a1) ⟨(g r2).1, 0, none⟩ 1 (g r2).2 [u] (by simp [hi2]) hnews' h1 hroom hfit
    rw [hi2, Nat.mul_one] at hrun
    have hrow := setRow_heap w (g r).1 arr (arr.toList.take (pre.length + T.length) ++ [u] ++ arr.toList.drop (pre.length + T.length + [u].length)).toArray row.ty _ a1
    have hgrown := Sim.grown hs (row' := ⟨e, (pre ++ (T ++ [q])).map f, false, 1⟩) (cap := (g r).2) (G := (g r).1) hr (.inl ⟨hf, rfl⟩) rfl (by rw [← hty]; exact hrow)
      (fun b hb hne => setRow_other w (g r).1 b _ (fun e' => hne hf e')) zT16 rfl rfl rfl (hc _) (fun _ => by simp; omega) (by
        intro j v hv
        simp only at hv
        rw [← List.append_assoc, List.getElem?_map] at hv
        by_cases hj : j < (pre ++ T).length
        · rw [List.getElem?_append_left hj, List.getElem?_eq_getElem hj] at hv
          simp only [Option.map_some, Option.some.injEq] at hv
          obtain ⟨y, h4, h5⟩ := hat j _ (List.getElem?_eq_getElem hj)
          subst hv
          refine ⟨y, ?_, h5⟩
          simp only [List.length_append] at hj
          have hjs : j < arr.size := (Array.getElem?_eq_some_iff.1 h4).1
          simp only [List.append_assoc, List.getElem?_toArray]
          rw [List.getElem?_append_left zT11, List.getElem?_take_of_lt hj]
          simpa using h4
        rw [List.getElem?_append_right zT15] at hv
        simp only [List.length_append] at hj
        have hjj : j = pre.length + T.length := by
          have : j - (pre ++ T).length < 1 := by
            cases hh : [q][j - (pre ++ T).length]? with
            | none => rw [hh] at hv; cases hv
            | some x => exact (List.getElem?_eq_some_iff.1 hh).1
          simp only [List.length_append] at this
          omega
        subst hjj
        simp at hv
        subst hv
        refine ⟨u, ?_, b5⟩
        simp only [List.append_assoc, List.getElem?_toArray]
        rw [List.getElem?_append_right zT11]
        simp
        rw [show pre.length + T.length - min (pre.length + T.length) arr.size = 0 by omega]
        rfl)
    unfold Oper.wp
    have hexec : (execOp a.eval o).run c.P w = .ok (.value (.slice (some ⟨(g r).1, pre.length, none⟩) (T.length + 1) cap)) (w.setRow (g r).1 (arr.toList.take (pre.length + T.length) ++ [u] ++ arr.toList.drop (pre.length + T.length + [u].length)).toArray) := by
      simp only [execOp, ho, resolve, invoke, builtin, Sem.run_bind, Sem.run_pure, Result.andThen_ok, List.map_toArray, List.map_cons, List.map_nil, hxx, hyy, hrun]
    rw [hexec]
    refine hK _ _ _ _ ⟨pre, rfl⟩ (hgrown.put o.dst (dok_spec (s := s) hd) ?_)
    have := VRep.que (w := w.setRow (g r).1 (arr.toList.take (pre.length + T.length) ++ [u] ++ arr.toList.drop (pre.length + T.length + [u].length)).toArray) (q := qt c ((r, (⟨e, (pre ++ (T ++ [q])).map f, false, 1⟩ : Row)) :: (s.forget r).H) (fun k => if k = r then ((g r).1, (g r).2) else g k)) (g := fun k => if k = r then ((g r).1, (g r).2) else g k) r 1 pre.length (T.length + 1) (some ⟨(g r).1, pre.length, none⟩) cap zT15 hcap (fun _ => ⟨by simp, by simpa using hc2⟩)
    exact this
  -- new memory
  obtain ⟨olds, ho1, ho2⟩ : ∃ olds : List Value, olds.length = T.length ∧ ∀ (j : Nat) (v : Value), olds[j]? = some v → arr[pre.length + j]? = some v ∧ ∃ x, T[j]? = some x ∧ VRep w (qt c s.H g) g (f x) v := by
    refine ⟨(List.range T.length).map fun j => arr.getD (pre.length + j) undef, by simp, fun j v hv => ?_⟩
    have hj : j < T.length := by simpa using (List.getElem?_eq_some_iff.1 hv).1
    simp only [List.getElem?_map, List.getElem?_range hj, Option.map_some, Option.some.injEq] at hv
    obtain ⟨y, h4, h5⟩ := hat (pre.length + j) T[j] (by rw [List.getElem?_append_right zT15]; simp [hj])
    rw [Array.getD_eq_getD_getElem?, h4] at hv
    simp only [Option.getD_some] at hv
    subst hv
    exact ⟨h4, T[j], List.getElem?_eq_getElem hj, h5⟩
  have hge := grownCap_ge w (T.length + 1) cap e
  have hfits := growslice_fits (need := T.length + 1) (old := cap) (bytes := i.bytes) zT15 (by
    rw [hi3]
    have : (T.length + 1) * bt ≤ 1000001 * 64 := Nat.mul_le_mul zT15 hbt
    omega)
  obtain ⟨hrun⟩ : Nonempty ((Builtin.append_ #[t, t] o.type #[.slice ad T.length cap, .slice (some ⟨(g r2).1, 0, none⟩) 1 (g r2).2]).run c.P w =
      .ok (.slice (some ⟨w.heap.size, 0, none⟩) (T.length + 1) (grownCap w (T.length + 1) cap e)) (w.drew.alloc (.cells (olds.toArray ++ [u].toArray ++ Builtin.zeroCells z.cells (grownCap w (T.length + 1) cap e - (T.length + 1))) e))) := by
    refine ⟨?_⟩
    cases ad with
    | none =>
      have hcap0 : cap = 0 := by
        by_cases h0 : cap = 0
        · exact h0
        have := (hca h0).1; cases this
      subst hcap0
      have hT0 : T.length = 0 := by omega
      have holds : olds = [] := List.eq_nil_of_length_eq_zero zT15
      have := run_append_nil (P := c.P) w t o.type e i z hu hi1 hi4 ⟨(g r2).1, 0, none⟩ 1 (g r2).2 [u] (by simp [hi2]) hnews' zT15 zT15 (by rw [hi3]; omega)
      rw [hT0, holds]
      simpa using this
    | some b =>
      refine run_append_grow (P := c.P) w t o.type e i z hu hi1 hi4 b T.length cap olds (by simp [hi2, ho1]) (fun j v hv => ?_) ⟨(g r2).1, 0, none⟩ 1 (g r2).2 [u] (by simp [hi2]) hnews' zT15 zT15 hfits
      have hj : j < T.length := by rw [← ho1]; exact (List.getElem?_eq_some_iff.1 hv).1
      obtain ⟨hb, _⟩ := hca zT15
      simp only [Option.some.injEq] at hb
      subst hb
      rw [addr_add, Nat.mul_one]
      exact (cell_of_row w _ _ _ _ _ a1).trans (ho2 j v hv).1
  have hgrown := Sim.grown hs (w' := w.drew.alloc (.cells (olds.toArray ++ [u].toArray ++ Builtin.zeroCells z.cells (grownCap w (T.length + 1) cap e - (T.length + 1))) e)) (row' := ⟨e, ([] ++ (T ++ [q])).map f, false, 1⟩) (cap := grownCap w (T.length + 1) cap e) (G := w.heap.size) hr (.inr rfl) rfl (heap_alloc_new w.drew _)
    (fun b hb _ => heap_alloc_old w.drew _ (r := b) hb) zT16 rfl rfl rfl (hc _) (fun _ => by simp [size_zeroCells, hzs, ho1]; omega) (by
      intro j v hv
      simp only [List.nil_append] at hv
      rw [List.getElem?_map] at hv
      by_cases hj : j < T.length
      · rw [List.getElem?_append_left hj, List.getElem?_eq_getElem hj] at hv
        simp only [Option.map_some, Option.some.injEq] at hv
        subst hv
        have hjo : j < olds.length := by omega
        obtain ⟨_, x, h6, h7⟩ := ho2 j olds[j] (List.getElem?_eq_getElem hjo)
        rw [List.getElem?_eq_getElem hj] at h6
        simp only [Option.some.injEq] at h6
        subst h6
        refine ⟨olds[j], ?_, h7⟩
        rw [Array.getElem?_append_left zT11, Array.getElem?_append_left (by simpa using hjo)]
        simp [hjo]
      rw [List.getElem?_append_right zT15] at hv
      have hjj : j = T.length := by
        have : j - T.length < 1 := by
          cases hh : [q][j - T.length]? with
          | none => rw [hh] at hv; cases hv
          | some x => exact (List.getElem?_eq_some_iff.1 hh).1
        omega
      subst hjj
      simp at hv
      subst hv
      refine ⟨u, ?_, b5⟩
      rw [Array.getElem?_append_left zT11, Array.getElem?_append_right zT11]
      simp [ho1])
  unfold Oper.wp
  have hexec : (execOp a.eval o).run c.P w = .ok (.value (.slice (some ⟨w.heap.size, 0, none⟩) (T.length + 1) (grownCap w (T.length + 1) cap e))) (w.drew.alloc (.cells (olds.toArray ++ [u].toArray ++ Builtin.zeroCells z.cells (grownCap w (T.length + 1) cap e - (T.length + 1))) e)) := by
    simp only [execOp, ho, resolve, invoke, builtin, Sem.run_bind, Sem.run_pure, Result.andThen_ok, List.map_toArray, List.map_cons, List.map_nil, hxx, hyy, hrun]
  rw [hexec]
  refine hK _ _ _ _ ⟨[], rfl⟩ (hgrown.put o.dst (dok_spec (s := s) hd) ?_)
  have hmx : grownCap w (T.length + 1) cap e ≤ maxLen := grownCap_le_maxLen w (T.length + 1) cap e (by simp only [maxLen]; omega)
  have := VRep.que (w := w.drew.alloc (.cells (olds.toArray ++ [u].toArray ++ Builtin.zeroCells z.cells (grownCap w (T.length + 1) cap e - (T.length + 1))) e)) (q := qt c ((r, (⟨e, ([] ++ (T ++ [q])).map f, false, 1⟩ : Row)) :: (s.forget r).H) (fun k => if k = r then (w.heap.size, grownCap w (T.length + 1) cap e) else g k)) (g := fun k => if k = r then (w.heap.size, grownCap w (T.length + 1) cap e) else g k) r 1 0 (T.length + 1) (some ⟨w.heap.size, 0, none⟩) (grownCap w (T.length + 1) cap e) hge hmx (fun _ => ⟨by simp, by simp⟩)
  exact this
theorem AL.stq {ops : Array Oper} {rest : List Oper} {X : List α → S} (hg : o.guard = none) (h : Step c o s (fun s' => ∃ pre', s' = X pre')) (hN : ∀ pre', AL c ops rest Q (X pre')) : AL c ops (o :: rest) Q s :=
  AL.step hg fun g a w hs K Q' hK => h g a w hs K Q' fun g' s' a' w' ⟨pre', e⟩ h1 => hK g' s' a' w' (by subst e; exact hN pre') h1
end
theorem Less.cell {s : S} (b j : Nat) (v' : V) {row : Row} {u : V} (hb : fnd s.H b = some row) (hj : row.cells[j]? = some u) (hw : Wk v' u) : Less ⟨s.n, s.T, (b, { row with cells := row.cells.set j v' }) :: s.H, s.K⟩ s := by
  refine ⟨rfl, fun i v h => ⟨v, h, .refl _⟩, fun k row' hk => ?_, fun j v h => ⟨v, h, .refl _⟩⟩
  simp only [fnd] at hk
  split at hk
  · rename_i e
    simp only [beq_iff_eq] at e
    subst e
    simp only [Option.some.injEq] at hk
    subst hk
    refine ⟨row, hb, rfl, rfl, rfl, fun i v hv => ?_⟩
    simp only at hv
    rw [List.getElem?_set] at hv
    split at hv
    · rename_i e
      subst e
      rw [if_pos (List.getElem?_eq_some_iff.1 hj).1] at hv
      simp only [Option.some.injEq] at hv
      subst hv
      exact ⟨u, hj, hw⟩
    exact ⟨v, hv, .refl _⟩
  exact ⟨row', hk, rfl, rfl, rfl, fun j v hv => ⟨v, hv, .refl _⟩⟩
/-- More than any path costs. -/
def big : Nat := 1152921504606846976
theorem big_eq : big = 1152921504606846976 := rfl
section
variable (Init : Nat → Nat → Prop) (Edge : Nat → Nat → Nat → Prop)
inductive Pth : Nat → Nat → Prop
  | init (q d : Nat) (h : Init q d) : Pth q d
  | step (q p d w : Nat) (h : Pth q d) (e : Edge q p w) : Pth p (d + w)
/-- What holds of costs all the time. -/
structure Snd (n : Nat) (L : List Nat) : Prop where
  len : L.length = n
  le : ∀ (q x : Nat), L[q]? = some x → x ≤ big
  path : ∀ (q x : Nat), L[q]? = some x → x < big → Pth Init Edge q x
  init : ∀ (q x d : Nat), L[q]? = some x → Init q d → x ≤ d
/-- The least costs. -/
def Lst (n : Nat) (L : List Nat) : Prop := Snd Init Edge n L ∧ ∀ (q x d : Nat), L[q]? = some x → Pth Init Edge q d → x ≤ d
open Classical in
noncomputable def dst (q : Nat) : Nat := if h : ∃ d, d < big ∧ Pth Init Edge q d then Classical.choose (least_nat h) else big
noncomputable def dstL (n : Nat) : List Nat := (List.range n).map (dst Init Edge)
variable {Init : Nat → Nat → Prop} {Edge : Nat → Nat → Nat → Prop} {n : Nat} {L L' : List Nat}
theorem dst_spec (q : Nat) : dst Init Edge q ≤ big ∧ (dst Init Edge q < big → Pth Init Edge q (dst Init Edge q)) ∧ ∀ d, Pth Init Edge q d → dst Init Edge q ≤ d := by
  unfold dst
  split
  · rename_i h
    obtain ⟨⟨h1, h2⟩, h3⟩ := Classical.choose_spec (least_nat h)
    refine ⟨Nat.le_of_lt h1, fun _ => h2, fun d hd => ?_⟩
    by_cases hb : d < big
    · exact h3 d ⟨hb, hd⟩
    omega
  rename_i h
  refine ⟨Nat.le_refl _, fun h => absurd h zT15, fun d hd => ?_⟩
  by_cases hb : d < big
  · exact absurd ⟨d, hb, hd⟩ h
  omega
theorem Lst.eq (h : Lst Init Edge n L) : L = dstL Init Edge n := by
  obtain ⟨hs, hm⟩ := h
  refine List.ext_getElem? fun q => ?_
  by_cases hq : q < n
  · obtain ⟨v, e1⟩ : ∃ v, L[q]? = some v := ⟨_, List.getElem?_eq_getElem (by rw [hs.len]; exact hq)⟩
    obtain ⟨d1, d2, d3⟩ := dst_spec (Init := Init) (Edge := Edge) q
    have h1 := hs.le q _ e1
    have : v = dst Init Edge q := by
      by_cases hb : v < big
      · have h2 := d3 _ (hs.path q _ e1 hb)
        have h3 := hm q _ _ e1 (d2 zT15)
        omega
      by_cases hb2 : dst Init Edge q < big
      · have h3 := hm q _ _ e1 (d2 hb2)
        omega
      omega
    rw [e1, this]
    simp [dstL, List.getElem?_range hq]
  rw [List.getElem?_eq_none (by rw [hs.len]; omega), List.getElem?_eq_none (by simp [dstL]; omega)]
/-- Nothing gets cheaper along an edge: all costs are least. -/
theorem Lst.of_closed (hs : Snd Init Edge n L) (hin : ∀ q p w, Edge q p w → q < n) (hc : ∀ (q p w x y : Nat), Edge q p w → L[q]? = some x → x < big → L[p]? = some y → y ≤ x + w) : Lst Init Edge n L := by
  refine ⟨hs, fun q x d hx hp => ?_⟩
  induction hp generalizing x with
  | init q d h => exact hs.init q x d hx h
  | step q p d w h e ih =>
    have hq := hin q p w e
    have hl : q < L.length := by rw [hs.len]; exact hq
    have e1 : L[q]? = some L[q] := List.getElem?_eq_getElem hl
    have h1 := ih L[q] e1
    by_cases hb : L[q] < big
    · have := hc q p w _ _ e e1 hb hx
      omega
    have := hs.le p x hx
    omega
/-- A cost gets less along an edge. -/
theorem Snd.set (hs : Snd Init Edge n L) {q p w x : Nat} (e : Edge q p w) (hx : L[q]? = some x) (hb : x < big) (hlt : ∀ y : Nat, L[p]? = some y → x + w < y) : Snd Init Edge n (L.set p (x + w)) := by
  have hpth : Pth Init Edge p (x + w) := .step q p x w (hs.path q x hx hb) e
  refine ⟨by simpa using hs.len, fun r y hy => ?_, fun r y hy hb' => ?_, fun r y d hy hi => ?_⟩
  all_goals
    rw [List.getElem?_set] at hy
    split at hy
    · rename_i er
      subst er
      split at hy
      · rename_i hpl
        simp only [Option.some.injEq] at hy
        subst hy
        have h0 := hlt L[p] (List.getElem?_eq_getElem hpl)
        have h1 := hs.le p _ (List.getElem?_eq_getElem hpl)
        first
          | omega
          | exact hpth
          | (have h2 := hs.init p _ d (List.getElem?_eq_getElem hpl) hi; omega)
      cases hy
    first
      | exact hs.le r y hy
      | exact hs.path r y hy hb'
      | exact hs.init r y d hy hi
/-- A cost that cannot get less any more. -/
def Stl (Init : Nat → Nat → Prop) (Edge : Nat → Nat → Nat → Prop) (L : List Nat) (p : Nat) : Prop := ∀ (x d : Nat), L[p]? = some x → Pth Init Edge p d → x ≤ d
open Classical in
noncomputable def stlN (Init : Nat → Nat → Prop) (Edge : Nat → Nat → Nat → Prop) (L : List Nat) (n : Nat) : Nat := ((List.range n).filter fun p => decide (Stl Init Edge L p)).length
/-- All is least, or an edge leads from a settled state to an unsettled one and settles it. -/
theorem stl_next (hs : Snd Init Edge n L) (hin : ∀ q p w, Edge q p w → q < n) {p d : Nat} (hp : Pth Init Edge p d) : (∀ d', Pth Init Edge p d' → d ≤ d') → Stl Init Edge L p ∨
    ∃ q r w x, Edge q r w ∧ L[q]? = some x ∧ Stl Init Edge L q ∧ ¬ Stl Init Edge L r ∧ ∀ d', Pth Init Edge r d' → x + w ≤ d' := by
  induction hp with
  | init q d h =>
    intro hm
    refine .inl fun x d' hx hd' => ?_
    have h1 := hs.init q x d hx h
    have h2 := hm d' hd'
    omega
  | step q p d w h e ih =>
    intro hm
    have hq := hin q p w e
    have hl : q < L.length := by rw [hs.len]; exact hq
    have e1 : L[q]? = some L[q] := List.getElem?_eq_getElem hl
    have hm' : ∀ d', Pth Init Edge q d' → d ≤ d' := fun d' hd' => by have := hm _ (.step q p d' w hd' e); omega
    rcases ih hm' with hq' | h'
    · by_cases hst : Stl Init Edge L p
      · exact .inl hst
      refine .inr ⟨q, p, w, L[q], e, e1, hq', hst, fun d' hd' => ?_⟩
      have h1 := hq' _ d e1 h
      have h2 := hm d' hd'
      omega
    exact .inr h'
theorem least_path {p d : Nat} (h : Pth Init Edge p d) : ∃ d0, Pth Init Edge p d0 ∧ ∀ d', Pth Init Edge p d' → d0 ≤ d' := least_nat ⟨d, h⟩
theorem filter_lt {P Q : Nat → Bool} {l : List Nat} (h : ∀ x ∈ l, P x = true → Q x = true) {x : Nat} (hx : x ∈ l) (hQ : Q x = true) (hP : P x = false) : (l.filter P).length + 1 ≤ (l.filter Q).length := by
  have mono : ∀ l : List Nat, (∀ x ∈ l, P x = true → Q x = true) → (l.filter P).length ≤ (l.filter Q).length := by
    intro l
    induction l with
    | nil => simp
    | cons y l ih =>
      intro h
      have h1 := ih fun x hx => h x (by simp [hx])
      have h2 := h y zT16
      simp only [List.filter_cons]
      cases hp : P y <;> cases hq : Q y <;> simp_all <;> omega
  induction l with
  | nil => cases hx
  | cons y l ih =>
    simp only [List.filter_cons]
    rcases List.mem_cons.1 hx with rfl | hx
    · rw [if_neg (by simp [hP]), if_pos hQ]
      have := mono l fun x hx => h x (by simp [hx])
      simp
      exact this
    have h1 := ih (fun x hx => h x (by simp [hx])) hx
    have h2 := h y zT16
    cases hp : P y <;> cases hq : Q y <;> simp_all <;> omega
/-- In rounds: k states are settled, and so it goes on; D tells which edges this round has seen (L0: the costs at its beginning). -/
structure Rd (Init : Nat → Nat → Prop) (Edge : Nat → Nat → Nat → Prop) (n k : Nat) (L0 : List Nat) (D : Nat → Nat → Nat → Prop) (L : List Nat) : Prop where
  snd : Snd Init Edge n L
  snd0 : Snd Init Edge n L0
  low : ∀ (q x x0 : Nat), L[q]? = some x → L0[q]? = some x0 → x ≤ x0
  cnt : k ≤ stlN Init Edge L0 n ∨ Lst Init Edge n L0
  seen : ∀ (q p w x y : Nat), D q p w → Edge q p w → L0[q]? = some x → L[p]? = some y → y ≤ x + w
theorem Rd.begin {k : Nat} (hs : Snd Init Edge n L) (hc : k ≤ stlN Init Edge L n ∨ Lst Init Edge n L) : Rd Init Edge n k L (fun _ _ _ => False) L :=
  ⟨hs, hs, fun q x x0 h1 h2 => by rw [h1] at h2; simp at h2; omega, hc, fun _ _ _ _ _ h => h.elim⟩
theorem Rd.skip {k : Nat} {L0 : List Nat} {D D' : Nat → Nat → Nat → Prop} (h : Rd Init Edge n k L0 D L) (hd : ∀ (q p w x y : Nat), D' q p w → D q p w ∨ (Edge q p w → L0[q]? = some x → L[p]? = some y → y ≤ x + w)) : Rd Init Edge n k L0 D' L :=
  ⟨h.snd, h.snd0, h.low, h.cnt, fun q p w x y h1 h2 h3 h4 => by
    rcases hd q p w x y h1 with h5 | h5
    · exact h.seen q p w x y h5 h2 h3 h4
    exact h5 h2 h3 h4⟩
theorem Rd.set {k q0 p0 w0 x0 : Nat} {L0 : List Nat} {D D' : Nat → Nat → Nat → Prop} (h : Rd Init Edge n k L0 D L) (e : Edge q0 p0 w0) (hx : L[q0]? = some x0) (hb : x0 < big) (hlt : ∀ y : Nat, L[p0]? = some y → x0 + w0 < y) (hp0 : p0 < n)
    (hd : ∀ q p w, D' q p w → D q p w ∨ (q = q0 ∧ p = p0 ∧ w = w0)) : Rd Init Edge n k L0 D' (L.set p0 (x0 + w0)) := by
  have hlow : ∀ (q x x1 : Nat), (L.set p0 (x0 + w0))[q]? = some x → L[q]? = some x1 → x ≤ x1 := by
    intro q x x1 h1 h2
    rw [List.getElem?_set] at h1
    split at h1
    · rename_i eq
      subst eq
      split at h1
      · simp only [Option.some.injEq] at h1
        have := hlt x1 h2
        omega
      cases h1
    rw [h1] at h2; simp at h2; omega
  have hget : ∀ q, q < n → ∃ x, L[q]? = some x := fun q hq => ⟨L[q]'(by rw [h.snd.len]; exact hq), List.getElem?_eq_getElem _⟩
  have hlt' : ∀ (q x : Nat), (L.set p0 (x0 + w0))[q]? = some x → q < n := fun q x hq => by have := (List.getElem?_eq_some_iff.1 hq).1; rw [List.length_set, h.snd.len] at this; exact this
  refine ⟨h.snd.set e hx hb hlt, h.snd0, fun q x x1 h1 h2 => ?_, h.cnt, fun q p w x y h1 h2 h3 h4 => ?_⟩
  · obtain ⟨z, hz⟩ := hget q (hlt' q x h1)
    have a1 := hlow q x z h1 hz
    have a2 := h.low q z x1 hz h2
    omega
  obtain ⟨z, hz⟩ := hget p (hlt' p y h4)
  have a1 := hlow p y z h4 hz
  rcases hd q p w h1 with h5 | ⟨rfl, rfl, rfl⟩
  · have := h.seen q p w x z h5 h2 h3 hz
    omega
  have a2 := h.low q x0 x hx h3
  rw [List.getElem?_set_self (by rw [h.snd.len]; exact hp0)] at h4
  simp only [Option.some.injEq] at h4
  omega
open Classical in
theorem Rd.finish {k : Nat} {L0 : List Nat} {D : Nat → Nat → Nat → Prop} (h : Rd Init Edge n k L0 D L) (hin : ∀ q p w, Edge q p w → q < n ∧ p < n) (hini : ∀ q d, Init q d → q < n) (hd : ∀ q p w, Edge q p w → D q p w) : Snd Init Edge n L ∧ (k + 1 ≤ stlN Init Edge L n ∨ Lst Init Edge n L) := by
  refine ⟨h.snd, ?_⟩
  have hget : ∀ (M : List Nat), M.length = n → ∀ q, q < n → ∃ x, M[q]? = some x := fun M hM q hq => ⟨M[q]'(by rw [hM]; exact hq), List.getElem?_eq_getElem _⟩
  have hmono : ∀ p, Stl Init Edge L0 p → Stl Init Edge L p := by
    intro p hp x d hx hpd
    have hpn : p < n := by have := (List.getElem?_eq_some_iff.1 hx).1; rw [h.snd.len] at this; exact this
    obtain ⟨x0, hx0⟩ := hget L0 h.snd0.len p hpn
    have a1 := h.low p x x0 hx hx0
    have a2 := hp x0 d hx0 hpd
    omega
  by_cases hall : ∀ p, p < n → Stl Init Edge L0 p
  · exact .inr ⟨h.snd, fun q x d hx hp => hmono q (hall q (by have := (List.getElem?_eq_some_iff.1 hx).1; rw [h.snd.len] at this; exact this)) x d hx hp⟩
  have hk : k ≤ stlN Init Edge L0 n := by
    rcases h.cnt with hc | hc
    · exact hc
    exact absurd (fun p _ x d hx hp => hc.2 p x d hx hp) hall
  obtain ⟨p, hp⟩ := Classical.not_forall.1 hall
  obtain ⟨hpn, hps⟩ := Classical.not_imp.1 hp
  obtain ⟨d, hpd⟩ : ∃ d, Pth Init Edge p d := by
    refine Classical.byContradiction fun hno => hps fun x d _ hd => (hno ⟨d, hd⟩).elim
  obtain ⟨d0, h1, h2⟩ := least_path hpd
  rcases stl_next h.snd0 (fun q p w e => (hin q p w e).1) h1 h2 with h3 | ⟨q, r, w, x, e, hx, hq, hr, hmin⟩
  · exact absurd h3 hps
  have hrn := (hin q r w e).2
  obtain ⟨y, hy⟩ := hget L h.snd.len r hrn
  have hry : Stl Init Edge L r := fun y' d' hy' hd' => by
    rw [hy] at hy'
    simp only [Option.some.injEq] at hy'
    subst hy'
    have a1 := h.seen q r w x y (hd q r w e) e hx hy
    have a2 := hmin d' hd'
    omega
  left
  have := filter_lt (P := fun p => decide (Stl Init Edge L0 p)) (Q := fun p => decide (Stl Init Edge L p)) (l := List.range n) (fun x _ hx => by simpa using hmono x (by simpa using hx)) (List.mem_range.2 hrn) (by simpa using hry) (by simpa using hr)
  unfold stlN at hk ⊢
  omega
open Classical in
theorem Rd.all {k : Nat} (hs : Snd Init Edge n L) (hc : k ≤ stlN Init Edge L n ∨ Lst Init Edge n L) (hk : n ≤ k) : L = dstL Init Edge n := by
  rcases hc with hc | hc
  · refine Lst.eq ⟨hs, fun q x d hx hp => ?_⟩
    have hq : q < n := by have := (List.getElem?_eq_some_iff.1 hx).1; rw [hs.len] at this; exact this
    have hfull : ∀ p ∈ List.range n, decide (Stl Init Edge L p) = true := by
      have h1 : ((List.range n).filter fun p => decide (Stl Init Edge L p)).length = (List.range n).length := by
        have := List.length_filter_le (fun p => decide (Stl Init Edge L p)) (List.range n)
        unfold stlN at hc
        simp only [List.length_range] at this ⊢
        omega
      exact List.length_filter_eq_length_iff.1 h1
    have := hfull q (List.mem_range.2 hq)
    exact (of_decide_eq_true this) x d hx hp
  exact hc.eq
/-- By a queue: T is what waits. -/
structure Que (Init : Nat → Nat → Prop) (Edge : Nat → Nat → Nat → Prop) (n : Nat) (X : Nat → Prop) (L : List Nat) (T : List Nat) : Prop where
  snd : Snd Init Edge n L
  fin : ∀ q ∈ T, ∃ x : Nat, L[q]? = some x ∧ x < big
  nodup : T.Nodup
  edge : ∀ (q p w x y : Nat), q ∉ T → ¬ X q → Edge q p w → L[q]? = some x → x < big → L[p]? = some y → y ≤ x + w
theorem Que.done {T : List Nat} (h : Que Init Edge n (fun _ => False) L T) (hT : T = []) (hin : ∀ q p w, Edge q p w → q < n) : L = dstL Init Edge n :=
  (Lst.of_closed h.snd hin fun q p w x y e hx hb hy => h.edge q p w x y (by simp [hT]) zT16 e hx hb hy).eq
theorem Que.take {T : List Nat} {q : Nat} (h : Que Init Edge n (fun _ => False) L (q :: T)) : q ∉ T ∧ Que Init Edge n (fun x => x = q) L T := by
  have hn := List.nodup_cons.1 h.nodup
  exact ⟨hn.1, h.snd, fun x hx => h.fin x (by simp [hx]), hn.2, fun x p w a b h1 h2 h3 h4 h5 h6 => h.edge x p w a b (by simp [h1]; exact h2) zT16 h3 h4 h5 h6⟩
theorem Que.settle {T : List Nat} {q : Nat} (h : Que Init Edge n (fun x => x = q) L T) (hq : ∀ (p w x y : Nat), Edge q p w → L[q]? = some x → L[p]? = some y → y ≤ x + w) : Que Init Edge n (fun _ => False) L T :=
  ⟨h.snd, h.fin, h.nodup, fun r p w a b h1 _ h3 h4 h5 h6 => by
    by_cases e : r = q
    · subst e; exact hq p w a b h3 h4 h6
    exact h.edge r p w a b h1 e h3 h4 h5 h6⟩
/-- A cost gets less; its state waits from now on (T': T, with it). -/
theorem Que.less {T T' : List Nat} {q p w x : Nat} (h : Que Init Edge n (fun z => z = q) L T) (e : Edge q p w) (hx : L[q]? = some x) (hb : x < big) (hp : p < n) (hlt : ∀ y : Nat, L[p]? = some y → x + w < y) (hT : T' = if p ∈ T then T else T ++ [p]) : Que Init Edge n (fun z => z = q) (L.set p (x + w)) T' := by
  have hpl : p < L.length := by rw [h.snd.len]; exact hp
  have hpT : p ∈ T' := by rw [hT]; split <;> simp_all
  have hsub : ∀ r, r ∉ T' → r ∉ T ∧ r ≠ p := by
    intro r hr
    refine ⟨fun hm => hr ?_, fun e' => hr (e' ▸ hpT)⟩
    rw [hT]; split <;> simp [hm]
  have hb2 : x + w < big := by
    have h1 := hlt L[p] (List.getElem?_eq_getElem hpl)
    have h2 := h.snd.le p _ (List.getElem?_eq_getElem hpl)
    omega
  refine ⟨h.snd.set e hx hb hlt, fun r hr => ?_, ?_, fun r s v a b h1 h2 h3 h4 h5 h6 => ?_⟩
  · by_cases er : r = p
    · subst er
      exact ⟨x + w, by rw [List.getElem?_set_self hpl], hb2⟩
    have hrT : r ∈ T := by
      rw [hT] at hr
      split at hr
      · exact hr
      rcases List.mem_append.1 hr with hr | hr
      · exact hr
      exact absurd (by simpa using hr) er
    obtain ⟨y, h1, h2⟩ := h.fin r hrT
    exact ⟨y, by rw [List.getElem?_set_ne (Ne.symm er)]; exact h1, h2⟩
  · rw [hT]
    split
    · exact h.nodup
    rename_i hn
    rw [List.nodup_append]
    exact ⟨h.nodup, by simp, fun a ha b hb => by simp at hb; subst hb; rintro rfl; exact hn ha⟩
  obtain ⟨h7, h8⟩ := hsub r h1
  rw [List.getElem?_set_ne (Ne.symm h8)] at h4
  by_cases es : s = p
  · subst es
    rw [List.getElem?_set_self hpl] at h6
    simp only [Option.some.injEq] at h6
    have h9 := hlt L[s] (List.getElem?_eq_getElem hpl)
    have h10 := h.edge r s v a _ h7 h2 h3 h4 h5 (List.getElem?_eq_getElem hpl)
    omega
  rw [List.getElem?_set_ne (Ne.symm es)] at h6
  exact h.edge r s v a b h7 h2 h3 h4 h5 h6
theorem sum_set : ∀ (L : List Nat) (p x y : Nat), L[p]? = some y → x < y → (L.set p x).sum + 1 ≤ L.sum
  | [], p, x, y, h, _ => by simp at h
  | z :: L, 0, x, y, h, hlt => by simp at h; subst h; simp; omega
  | z :: L, p + 1, x, y, h, hlt => by
    have := sum_set L p x y (by simpa using h) hlt
    simp
    omega
end
def encE (l : List (Nat × Nat)) : List D := [.sl 2 16 (l.map fun e => [.p (.int .i64 (e.1 : Int)), .p (.int .i64 (e.2 : Int))])]
def fInit (F : List Nat) (q d : Nat) : Prop := F[q]? = some d ∧ d ≠ 1000000001
def fEdge (E : List (List (Nat × Nat))) (q p w : Nat) : Prop := ∃ l, E[q]? = some l ∧ (p, w) ∈ l
def tell (x : Nat) : Nat := if x = big then 1000000001 else x
def okD (x : Nat) : Bool := decide (x = big ∨ x ≤ 1000000000)
def iC (x : Nat) : Nat := if x = 1000000001 then big else x
abbrev intsN (l : List Nat) : D := .sl 1 8 (l.map encN)
/-- The answer: all costs, or that one is over. -/
def resD (L : List Nat) (v : V) : Prop := L.all okD = true ∧ v = .tup [.d (intsN (L.map tell)), .i 0] ∨ L.all okD = false ∧ v = .tup [.nil, .i 4]
/-- Towards an end: against the arcs. -/
def eTo (p q : Nat) (l : List Ar) : List (Nat × Nat) := (l.filter fun a => decide (a.t = (p : Int))).map fun a => (q, a.w.toNat)
def eInto (sts : List St) (p : Nat) : Nat → List (Nat × Nat)
  | 0 => []
  | k + 1 => eInto sts p k ++ eTo p k (stA sts k)
def enF (m : Mach) : List Nat := bl (fun q => (m.states.getD q ⟨0, []⟩).fin.toNat) m.states.length
def enE (m : Mach) : List (List (Nat × Nat)) := bl (fun p => eInto m.states p m.states.length) m.states.length
theorem eTo_snoc (p q : Nat) {l : List Ar} {i : Nat} {a : Ar} (h : l[i]? = some a) : eTo p q (l.take (i + 1)) = eTo p q (l.take i) ++ if a.t = (p : Int) then [(q, a.w.toNat)] else [] := by
  rw [take_snoc h]
  unfold eTo
  rw [List.filter_append, List.map_append]
  by_cases e : a.t = (p : Int) <;> simp [e]
theorem eTo_len (p q : Nat) (l : List Ar) : (eTo p q l).length ≤ l.length := by
  unfold eTo
  rw [List.length_map]
  exact List.length_filter_le _ _
theorem eInto_len {sts : List St} (h : ∀ x ∈ sts, x.arcs.length ≤ 400) (p : Nat) : ∀ k, (eInto sts p k).length ≤ 400 * k
  | 0 => by simp [eInto]
  | k + 1 => by
    have h1 := eInto_len h p k
    have h2 := eTo_len p k (stA sts k)
    have h3 : (stA sts k).length ≤ 400 := by
      cases hx : sts[k]? with
      | none => simp [stA, List.getD_eq_getElem?_getD, hx]
      | some x => rw [stA_of hx]; exact h x (List.mem_of_getElem? hx)
    simp only [eInto, List.length_append]
    omega
theorem eInto_mem {sts : List St} {p : Nat} {e : Nat × Nat} : ∀ k, e ∈ eInto sts p k ↔ ∃ q a, q < k ∧ a ∈ stA sts q ∧ a.t = (p : Int) ∧ e = (q, a.w.toNat)
  | 0 => by simp [eInto]
  | k + 1 => by
    simp only [eInto, List.mem_append, eInto_mem k, eTo, List.mem_map, List.mem_filter, decide_eq_true_eq]
    constructor
    · rintro (⟨q, a, h1, h2⟩ | ⟨a, ⟨h1, h2⟩, h3⟩)
      · exact ⟨q, a, by omega, h2⟩
      exact ⟨k, a, by omega, h1, h2, h3.symm⟩
    rintro ⟨q, a, h1, h2, h3, h4⟩
    by_cases e : q = k
    · subst e; exact .inr ⟨a, ⟨h2, h3⟩, h4.symm⟩
    exact .inl ⟨q, a, by omega, h2, h3, h4⟩
theorem en_edge {m : Mach} (hz : ∀ s ∈ m.states, ∀ a ∈ s.arcs, 0 ≤ a.t ∧ a.t < m.states.length ∧ 0 ≤ a.w) {p q w : Nat} : fEdge (enE m) p q w ↔ ∃ (x : St) (j : Nat) (a : Ar), m.states[q]? = some x ∧ x.arcs[j]? = some a ∧ a.t = (p : Int) ∧ a.w = (w : Int) := by
  constructor
  · rintro ⟨l, h1, h2⟩
    obtain ⟨hp, rfl⟩ := bl_inv h1
    obtain ⟨q', a, h3, h4, h5, h6⟩ := (eInto_mem _).1 h2
    simp only [Prod.mk.injEq] at h6
    obtain ⟨rfl, h6⟩ := h6
    have hx : m.states[q]? = some m.states[q] := List.getElem?_eq_getElem h3
    rw [stA_of hx] at h4
    obtain ⟨j, hj⟩ := List.getElem?_of_mem h4
    obtain ⟨_, _, h7⟩ := hz _ (List.getElem_mem h3) a h4
    exact ⟨_, j, a, hx, hj, h5, by omega⟩
  rintro ⟨x, j, a, h1, h2, h3, h4⟩
  have hq : q < m.states.length := (List.getElem?_eq_some_iff.1 h1).1
  have hp : p < m.states.length := by
    obtain ⟨_, h5, _⟩ := hz x (List.mem_of_getElem? h1) a (List.mem_of_getElem? h2)
    omega
  exact ⟨_, bl_get hp, (eInto_mem _).2 ⟨q, a, hq, by rw [stA_of h1]; exact List.mem_of_getElem? h2, h3, by simp [h4]⟩⟩
noncomputable def enD (m : Mach) : List Nat := dstL (fInit (enF m)) (fEdge (enE m)) m.states.length
noncomputable def disE (D : List Nat) (m : Mach) : Int := if machE m ≠ 0 then machE m else if D.all okD then 0 else 4
noncomputable def disL (D : List Nat) (m : Mach) : List Nat := if disE D m = 0 then D.map tell else []
/-- An answer of costs. -/
def resI (e : Int) (L : List Nat) (v : V) : Prop := e ≠ 0 ∧ v = .tup [.nil, .i e] ∨ e = 0 ∧ v = .tup [.d (intsN L), .i 0]
theorem dis_res {D : List Nat} {m : Mach} (h0 : machE m = 0) {v : V} (h : resD D v) : resI (disE D m) (disL D m) v := by
  have hE : disE D m = if D.all okD then 0 else 4 := by unfold disE; rw [if_neg (by simp [h0])]
  unfold disL
  rw [hE]
  rcases h with ⟨h1, h2⟩ | ⟨h1, h2⟩
  · rw [h1]; exact .inr ⟨rfl, h2⟩
  rw [h1]; exact .inl ⟨by decide, h2⟩
theorem resI_ne {P : Program} {f : FuncId} {args : List V} {e : Int} {L : List Nat} (h : Fn P f args (resI e L)) (he : e ≠ 0) : Fn P f args (fun v => v = .tup [.nil, .i e]) := h.mono fun v hv => by
  rcases hv with ⟨_, hv⟩ | ⟨h0, _⟩
  · exact hv
  exact absurd h0 he
theorem resI_eq {P : Program} {f : FuncId} {args : List V} {e : Int} {L : List Nat} (h : Fn P f args (resI e L)) (he : e = 0) : Fn P f args (fun v => v = .tup [.d (intsN L), .i 0]) := h.mono fun v hv => by
  rcases hv with ⟨h0, _⟩ | ⟨_, hv⟩
  · exact absurd he h0
  exact hv
theorem am_Told_none (x : Nat) (h : x = big) : Fn Tryz.prog 55 [.i (x : Int)] (fun v => v = .tup [.i ((1000000001 : Nat) : Int), .i 0]) := by
 have hbig := big_eq
 refine Fn.intro (n := 9) ⟨Tryz.func55, rfl, rfl, rfl, rfl⟩ zT8 zT16 fun w0 out => ?_
 apply AW.sr
 iterate 2 refine AL.z ?_
 apply AL.nil
 try simp only [thenS, S.put, enum, List.nil_append, List.cons_append, List.append_nil, Nat.zero_add, Nat.reduceAdd]
 apply AW.seq
 apply AW.sr
 iterate 2 refine AL.z ?_
 apply AL.nil
 try simp only [nd]
 refine AW.condT rfl ?_
 apply AW.sr
 iterate 2 refine AL.z ?_
 apply AL.nil
 try simp only [nd]
 apply AW.ret
 exact ⟨[_, _], ⟨rfl, rfl, trivial⟩, rfl, by simp [tupOf, V.pure, V.has, V.hasL]⟩
theorem am_Told_over (x : Nat) (h : x ≠ big) (h2 : 1000000000 < x) : Fn Tryz.prog 55 [.i (x : Int)] (fun v => v = .tup [.i 0, .i 4]) := by
 have hbig := big_eq
 refine Fn.intro (n := 9) ⟨Tryz.func55, rfl, rfl, rfl, rfl⟩ zT8 zT16 fun w0 out => ?_
 apply AW.sr
 iterate 2 refine AL.z ?_
 apply AL.nil
 try simp only [thenS, S.put, enum, List.nil_append, List.cons_append, List.append_nil, Nat.zero_add, Nat.reduceAdd]
 apply AW.seq
 apply AW.sr
 iterate 2 refine AL.z ?_
 apply AL.nil
 try simp only [nd]
 refine AW.condF rfl ?_
 apply AW.skip
 try simp only [thenS]
 apply AW.seq
 apply AW.sr
 iterate 2 refine AL.z ?_
 apply AL.nil
 try simp only [nd]
 refine AW.condT rfl ?_
 apply AW.sr
 iterate 2 refine AL.z ?_
 apply AL.nil
 try simp only [nd]
 apply AW.ret
 exact ⟨[_, _], ⟨rfl, rfl, trivial⟩, rfl, by simp [tupOf, V.pure, V.has, V.hasL]⟩
theorem am_Told_ok (x : Nat) (h : x ≠ big) (h2 : x ≤ 1000000000) : Fn Tryz.prog 55 [.i (x : Int)] (fun v => v = .tup [.i (x : Int), .i 0]) := by
 have hbig := big_eq
 refine Fn.intro (n := 9) ⟨Tryz.func55, rfl, rfl, rfl, rfl⟩ zT8 zT16 fun w0 out => ?_
 apply AW.sr
 iterate 2 refine AL.z ?_
 apply AL.nil
 try simp only [thenS, S.put, enum, List.nil_append, List.cons_append, List.append_nil, Nat.zero_add, Nat.reduceAdd]
 apply AW.seq
 apply AW.sr
 iterate 2 refine AL.z ?_
 apply AL.nil
 try simp only [nd]
 refine AW.condF rfl ?_
 apply AW.skip
 try simp only [thenS]
 apply AW.seq
 apply AW.sr
 iterate 2 refine AL.z ?_
 apply AL.nil
 try simp only [nd]
 refine AW.condF rfl ?_
 apply AW.skip
 try simp only [thenS]
 apply AW.sr
 iterate 3 refine AL.z ?_
 apply AL.nil
 try simp only [nd]
 apply AW.ret
 exact ⟨[_, _], ⟨rfl, rfl, trivial⟩, rfl, by simp [tupOf, V.pure, V.has, V.hasL]⟩
theorem am_costs (L : List Nat) (n : Nat) (hL : L.length = n) (hn : n ≤ 60) : Fn Tryz.prog 90 [.d (intsN L)] (resD L) := by
 have hbig := big_eq
 refine Fn.intro (n := 30) ⟨Tryz.func90, rfl, rfl, rfl, rfl⟩ zT8 zT16 fun w0 out => ?_
 apply AW.sr
 iterate 2 refine AL.z ?_
 apply AL.nil
 try simp only [thenS, S.put, enum, List.nil_append, List.cons_append, List.append_nil, Nat.zero_add, Nat.reduceAdd]
 apply AW.sr
 refine AL.z ?_
 apply AL.nil
 try simp only [nd]
 apply AW.seq
 apply AW.seq
 refine AW.adopt 4 100 1 3 rfl (by simp [S.clean, V.has, V.hasL]) ?_
 apply AW.region
 refine AL.z ?_
 apply AL.nil
 try simp only [nd]
 apply AW.block
 refine AW.loop (fun s' => ∃ (k : Nat) (A : List Nat), k ≤ n ∧ A = (L.take k).map tell ∧ (∀ j x : Nat, j < k → L[j]? = some x → okD x = true) ∧ s' = ⟨30, [(0, .d (intsN L)), (4, .own 100 1 k (decide (k = 0))), (5, .i k)], [(100, ⟨3, A.map V.n, decide (k = 0), 1⟩)], []⟩) (fun s' => n - s'.nat 5) ⟨_, ?_, 0, [], by omega, by simp, (fun j x h => absurd h zT15), rfl⟩ ?_
 ·exact Less.a0
 rintro s' ⟨k, A, hk, hA, hok, rfl⟩
 by_cases hlt : k < n
 ·obtain ⟨x, hx⟩ := get_lt hL hlt
  have hsn := congrArg (List.map tell) (take_snoc hx)
  rw [List.map_append, List.map_cons, List.map_nil] at hsn
  rw [← hA] at hsn
  have hfl : (A.map V.n).length = k * 1 := by rw [hA]; simp; omega
  have hokn : okD x = true → ∀ j z : Nat, j < k + 1 → L[j]? = some z → okD z = true := by
   intro h j z hj hz
   by_cases e : j = k
   ·subst e; rw [hx] at hz; simp only [Option.some.injEq] at hz; subst hz; exact h
   exact hok j z zT15 hz
  by_cases hb : x = big
  ·rw [show tell x = 1000000001 by simp [tell, hb]] at hsn
   apply AW.seq
   apply AW.sr
   iterate 4 refine AL.z ?_
   apply AL.nil
   try simp only [nd]
   refine AW.condT rfl ?_
   apply AW.skip
   try simp only [thenS]
   apply AW.seq
   apply AW.block
   apply AW.sr
   iterate 4 refine AL.z ?_
   refine AL.call (post := ?pc10) rfl (sm_call (args := [_]) ?hc10 ⟨Tryz.func55, rfl, rfl, rfl, rfl⟩ rfl rfl rfl rfl) ?_
   case hc10 => exact am_Told_none x hb
   rintro _ rfl -
   try dsimp only
   iterate 5 refine AL.z ?_
   apply AL.nil
   try simp only [nd, setL, V.cs, nz, Nat.reduceAdd, nm, ns]
   apply AW.seq
   apply AW.sr
   iterate 2 refine AL.z ?_
   apply AL.nil
   try simp only [nd]
   refine AW.condF rfl ?_
   apply AW.skip
   try simp only [thenS]
   apply AW.region
   iterate 2 refine AL.z ?_
   refine AL.sm rfl (sm_slice (vs := [(0, _)]) (zs := [.d (.p (.int .i64 0))]) 27 Tryz.underlying42 inf3 rfl rfl zT14 zT14 zT14 rfl rfl rfl rfl zT1 rfl rfl) ?_
   refine AL.st rfl (st_appendF Tryz.underlying42 inf3 rfl zT14 rfl rfl rfl rfl rfl rfl zT5 zT1 rfl rfl rfl rfl rfl rfl rfl zT14 zT15 zT15 rfl) ?_
   simp only [S.forget, S.put, S.newObj, junkIf, V.has, V.hasL, nh, hasL_flat, hasL_append, List.map_cons, List.map_nil, List.filter_cons, List.filter_nil, Nat.reduceBNe, Nat.reduceBEq, eq_self, bne_self_eq_false,  Bool.not_true, Bool.not_false, Bool.or_false, Bool.or_true, Bool.false_or, Bool.true_or, if_true, if_false, Bool.false_eq_true, ite_true, ite_false, ↓reduceIte, beq_self_eq_true, Nat.reduceEqDiff]
   refine AL.z ?_
   apply AL.nil
   try simp only [nd, setL, V.cs, nz, Nat.reduceAdd, nm, ns]
   apply AW.region
   iterate 3 refine AL.z ?_
   apply AL.nil
   try simp only [nd]
   refine ⟨_, ?_, ⟨k + 1, A ++ [1000000001], by omega, hsn.symm, hokn (by simp [okD, hb]), rfl⟩, ?_⟩
   ·simp only [List.map_append, List.map_cons, List.map_nil]
    exact Less.a0
   simp [S.nat, fnd]; omega
  by_cases hov : 1000000000 < x
  ·have hall : L.all okD = false := all_not hx (by simp [okD, hb]; omega)
   apply AW.seq
   apply AW.sr
   iterate 4 refine AL.z ?_
   apply AL.nil
   try simp only [nd]
   refine AW.condT rfl ?_
   apply AW.skip
   try simp only [thenS]
   apply AW.seq
   apply AW.block
   apply AW.sr
   iterate 4 refine AL.z ?_
   refine AL.call (post := ?pc11) rfl (sm_call (args := [_]) ?hc11 ⟨Tryz.func55, rfl, rfl, rfl, rfl⟩ rfl rfl rfl rfl) ?_
   case hc11 => exact am_Told_over x hb hov
   rintro _ rfl -
   try dsimp only
   iterate 5 refine AL.z ?_
   apply AL.nil
   try simp only [nd, setL, V.cs, nz, Nat.reduceAdd, nm, ns]
   apply AW.seq
   apply AW.sr
   iterate 2 refine AL.z ?_
   apply AL.nil
   try simp only [nd]
   refine AW.condT rfl ?_
   apply AW.sr
   iterate 3 refine AL.z ?_
   apply AL.nil
   try simp only [nd]
   apply AW.ret
   exact ⟨[_, _], ⟨rfl, rfl, trivial⟩, .inr ⟨hall, rfl⟩, by simp [tupOf, V.pure, V.has, V.hasL]⟩
  rw [show tell x = x by simp [tell, hb]] at hsn
  apply AW.seq
  apply AW.sr
  iterate 4 refine AL.z ?_
  apply AL.nil
  try simp only [nd]
  refine AW.condT rfl ?_
  apply AW.skip
  try simp only [thenS]
  apply AW.seq
  apply AW.block
  apply AW.sr
  iterate 4 refine AL.z ?_
  refine AL.call (post := ?pc12) rfl (sm_call (args := [_]) ?hc12 ⟨Tryz.func55, rfl, rfl, rfl, rfl⟩ rfl rfl rfl rfl) ?_
  case hc12 => exact am_Told_ok x hb zT15
  rintro _ rfl -
  try dsimp only
  iterate 5 refine AL.z ?_
  apply AL.nil
  try simp only [nd, setL, V.cs, nz, Nat.reduceAdd, nm, ns]
  apply AW.seq
  apply AW.sr
  iterate 2 refine AL.z ?_
  apply AL.nil
  try simp only [nd]
  refine AW.condF rfl ?_
  apply AW.skip
  try simp only [thenS]
  apply AW.region
  iterate 2 refine AL.z ?_
  refine AL.sm rfl (sm_slice (vs := [(0, _)]) (zs := [.d (.p (.int .i64 0))]) 27 Tryz.underlying42 inf3 rfl rfl zT14 zT14 zT14 rfl rfl rfl rfl zT1 rfl rfl) ?_
  refine AL.st rfl (st_appendF Tryz.underlying42 inf3 rfl zT14 rfl rfl rfl rfl rfl rfl zT5 zT1 rfl rfl rfl rfl rfl rfl rfl zT14 zT15 zT15 rfl) ?_
  simp only [S.forget, S.put, S.newObj, junkIf, V.has, V.hasL, nh, hasL_flat, hasL_append, List.map_cons, List.map_nil, List.filter_cons, List.filter_nil, Nat.reduceBNe, Nat.reduceBEq, eq_self, bne_self_eq_false,  Bool.not_true, Bool.not_false, Bool.or_false, Bool.or_true, Bool.false_or, Bool.true_or, if_true, if_false, Bool.false_eq_true, ite_true, ite_false, ↓reduceIte, beq_self_eq_true, Nat.reduceEqDiff]
  refine AL.z ?_
  apply AL.nil
  try simp only [nd, setL, V.cs, nz, Nat.reduceAdd, nm, ns]
  apply AW.region
  iterate 3 refine AL.z ?_
  apply AL.nil
  try simp only [nd]
  refine ⟨_, ?_, ⟨k + 1, A ++ [x], by omega, hsn.symm, hokn (by simp [okD]; omega), rfl⟩, ?_⟩
  ·simp only [List.map_append, List.map_cons, List.map_nil]
   exact Less.a0
  simp [S.nat, fnd]; omega
 have hall : L.all okD = true := by
  rw [List.all_eq_true]
  intro x hx
  obtain ⟨j, hj⟩ := List.getElem?_of_mem hx
  exact hok j x (by have := (List.getElem?_eq_some_iff.1 hj).1; omega) hj
 rw [List.take_of_length_le zT15] at hA
 subst hA
 apply AW.seq
 apply AW.sr
 iterate 4 refine AL.z ?_
 apply AL.nil
 try simp only [nd]
 refine AW.condF rfl ?_
 refine AW.exit ?_
 try simp only [thenS, inBlockS, ↓reduceIte, Nat.reduceEqDiff]
 apply AW.seq
 refine AW.freeze 4 8 ((L.map tell).map encN) rfl rfl rfl zT11 zT15 (rows1 rfl) ?_
 apply AW.region
 iterate 3 refine AL.z ?_
 apply AL.nil
 try simp only [nd]
 apply AW.ret
 exact ⟨[_, _], ⟨rfl, rfl, trivial⟩, .inl ⟨hall, rfl⟩, by simp [tupOf, V.pure, V.has, V.hasL]⟩
def stF (sts : List St) (q : Nat) : Nat := (sts.getD q ⟨0, []⟩).fin.toNat
theorem stF_of {sts : List St} {q : Nat} {x : St} (h : sts[q]? = some x) : stF sts q = x.fin.toNat := by simp [stF, List.getD_eq_getElem?_getD, h]
theorem en_init {m : Mach} {q d : Nat} : fInit (enF m) q d ↔ q < m.states.length ∧ stF m.states q = d ∧ d ≠ 1000000001 := by
 constructor
 ·rintro ⟨h1, h2⟩
  obtain ⟨hq, rfl⟩ := bl_inv h1
  exact ⟨hq, rfl, h2⟩
 rintro ⟨h1, h2, h3⟩
 exact ⟨by rw [enF, bl_get h1, ← h2]; rfl, h3⟩
theorem am_ends (m : Mach) (h0 : machE m = 0) : Fn Tryz.prog 89 [mV m] (fun v => v = .d (intsN (enD m))) := by
 have hbig := big_eq
 obtain ⟨h60, h400, hst, hz⟩ := machE_zero h0
 have hed : ∀ {p q w}, fEdge (enE m) p q w ↔ _ := fun {p q w} => en_edge (m := m) (fun s hs a ha => by have := (hz s hs).2 a ha; simp only [arOk, decide_eq_true_eq] at this; omega)
 have hini := @en_init m
 obtain ⟨st, sts⟩ := m
 simp only at h60 h400 hst hz hed hini
 have hal4 : ∀ x ∈ sts, x.arcs.length ≤ 400 := fun x hx => Nat.le_trans (arcN_mem sts x hx) h400
 have hDD : enD ⟨st, sts⟩ = dstL (fInit (enF ⟨st, sts⟩)) (fEdge (enE ⟨st, sts⟩)) sts.length := rfl
 obtain ⟨D, hD⟩ : ∃ D, enD ⟨st, sts⟩ = D := ⟨_, rfl⟩
 rw [hD] at hDD ⊢
 obtain ⟨I, hI⟩ : ∃ I, fInit (enF ⟨st, sts⟩) = I := ⟨_, rfl⟩
 obtain ⟨G, hG⟩ : ∃ G, fEdge (enE ⟨st, sts⟩) = G := ⟨_, rfl⟩
 rw [hI] at hini hDD
 rw [hG] at hed hDD
 obtain ⟨n, hn⟩ : ∃ n, sts.length = n := ⟨_, rfl⟩
 rw [hn] at h60 hst hz hDD hini
 have hin : ∀ p q w, G p q w → p < n ∧ q < n := by
  intro p q w h
  obtain ⟨x, j, a, h1, h2, h3, h4⟩ := hed.1 h
  have h5 := (hz x (List.mem_of_getElem? h1)).2 a (List.mem_of_getElem? h2)
  simp only [arOk, decide_eq_true_eq] at h5
  exact ⟨by omega, by rw [← hn]; exact (List.getElem?_eq_some_iff.1 h1).1⟩
 have hfin : ∀ q, q < n → stF sts q ≤ 1000000001 := by
  intro q hq
  have hx : sts[q]? = some sts[q] := List.getElem?_eq_getElem zT15
  have h1 := (hz _ (List.getElem_mem (by omega : q < sts.length))).1
  rw [stF_of hx]
  simp [finOk] at h1
  omega
 refine Fn.intro (n := 102) ⟨Tryz.func89, rfl, rfl, rfl, rfl⟩ zT8 zT16 fun w0 out => ?_
 apply AW.sr
 refine AL.sm rfl (sm_box 1 rfl rfl rfl rfl rfl) ?_
 refine AL.z ?_
 apply AL.nil
 try simp only [nd, setL, V.cs, nz, Nat.reduceAdd, nm, ns, enum]
 apply AW.sr
 iterate 4 refine AL.z ?_
 apply AL.nil
 try simp only [nd]
 apply AW.sr
 refine AL.z ?_
 refine AL.sm rfl (sm_make_map 14 V.i (0) Tryz.underlying42 inf3 rfl rfl rfl rfl rfl zT15 zT14 rfl rfl) ?_
 refine AL.z ?_
 apply AL.nil
 try simp only [nd, setL, V.cs, nz, Nat.reduceAdd, nm, ns]
 apply AW.seq
 apply AW.sr
 refine AL.z ?_
 apply AL.nil
 try simp only [nd]
 apply AW.block
 refine AW.loop (fun s' => ∃ k : Nat, k ≤ n ∧ s' = ⟨102, [(1, .ref 1 0), (3, .i n), (4, .own 14 1 n false), (5, .i k)], [(1, ⟨24, [.i st, .d (stsD sts)], false, 0⟩), (14, ⟨3, (bl (fun q => if q < k then iC (stF sts q) else 0) n).map V.n, false, 1⟩)], []⟩) (fun s' => n - s'.nat 5) ⟨_, ?_, 0, by omega, rfl⟩ ?_
 ·have hz0 : (List.replicate n (0 : Int)).map V.i = (bl (fun q => if q < 0 then iC (stF sts q) else 0) n).map V.n := by rw [show (bl (fun q => if q < 0 then iC (stF sts q) else 0) n) = List.replicate n 0 by rw [bl_rep]; exact bl_congr fun q _ => by simp]; simp
  rw [hz0]
  exact Less.a0
 rintro s' ⟨k, hk, rfl⟩
 by_cases hlt : k < n
 ·obtain ⟨x, hx⟩ := get_lt hn hlt
  have hxf := (hz x (List.mem_of_getElem? hx)).1
  have hkf := stF_of hx
  obtain ⟨xf, xa⟩ := x
  simp only [finOk, decide_eq_true_eq] at hxf
  obtain ⟨f, rfl⟩ : ∃ f : Nat, xf = f := ⟨xf.toNat, by omega⟩
  simp only [Int.toNat_natCast] at hkf
  have hkL : k < (bl (fun q => if q < k then iC (stF sts q) else 0) n).length := by rw [bl_len]; exact hlt
  have hkL2 : k < ((bl (fun q => if q < k then iC (stF sts q) else 0) n).set k big).length := by rw [List.length_set, bl_len]; exact hlt
  have hnext : ∀ v : Nat, v = iC f → (bl (fun q => if q < k then iC (stF sts q) else 0) n).set k v = (bl (fun q => if q < (k + 1) then iC (stF sts q) else 0) n) := fun v hv => bl_set hlt (by rw [if_pos zT15, hkf, hv]) fun q _ hq => by
   by_cases e : q < k
   ·rw [if_pos e, if_pos zT15]
   rw [if_neg e, if_neg zT15]
  by_cases hi : f = 1000000001
  ·have hn1 := hnext big (by simp [iC, hi])
   have htest : (f : Int) = 1000000001 := by omega
   apply AW.seq
   apply AW.sr
   iterate 3 refine AL.z ?_
   apply AL.nil
   try simp only [nd]
   refine AW.condT rfl ?_
   apply AW.skip
   try simp only [thenS]
   apply AW.seq
   apply AW.block
   apply AW.sr
   iterate 3 refine AL.z ?_
   refine AL.st rfl (st_store_map2 (v := big) inf3 rfl rfl rfl rfl rfl rfl rfl rfl zT9) ?_
   apply AL.nil
   try simp only [nd, setL, V.cs, nz, Nat.reduceAdd, nm, ns]
   apply AW.sr
   iterate 7 refine AL.z ?_
   apply AL.nil
   try simp only [nd]
   refine AW.condF rfl ?_
   apply AW.skip
   try simp only [thenS]
   apply AW.region
   iterate 3 refine AL.z ?_
   apply AL.nil
   try simp only [nd]
   refine ⟨_, ?_, ⟨k + 1, by omega, rfl⟩, ?_⟩
   ·rw [← hn1]; exact Less.a0
   simp [S.nat, fnd]; omega
  have hn1 : ((bl (fun q => if q < k then iC (stF sts q) else 0) n).set k big).set k f = (bl (fun q => if q < (k + 1) then iC (stF sts q) else 0) n) := by rw [List.set_set]; exact hnext f (by simp [iC, hi])
  have htest : ¬ (f : Int) = 1000000001 := by omega
  apply AW.seq
  apply AW.sr
  iterate 3 refine AL.z ?_
  apply AL.nil
  try simp only [nd]
  refine AW.condT rfl ?_
  apply AW.skip
  try simp only [thenS]
  apply AW.seq
  apply AW.block
  apply AW.sr
  iterate 3 refine AL.z ?_
  refine AL.st rfl (st_store_map2 (v := big) inf3 rfl rfl rfl rfl rfl rfl rfl rfl zT9) ?_
  apply AL.nil
  try simp only [nd, setL, V.cs, nz, Nat.reduceAdd, nm, ns]
  apply AW.sr
  iterate 7 refine AL.z ?_
  apply AL.nil
  try simp only [nd]
  refine AW.condT rfl ?_
  apply AW.region
  iterate 9 refine AL.z ?_
  refine AL.st rfl (st_store_map2 (v := f) inf3 rfl rfl rfl rfl rfl rfl rfl rfl zT9) ?_
  apply AL.nil
  try simp only [nd, setL, V.cs, nz, Nat.reduceAdd, nm, ns]
  apply AW.region
  iterate 3 refine AL.z ?_
  apply AL.nil
  try simp only [nd]
  refine ⟨_, ?_, ⟨k + 1, by omega, rfl⟩, ?_⟩
  ·rw [← hn1]; exact Less.a0
  simp [S.nat, fnd]; omega
 obtain rfl : k = n := by omega
 obtain ⟨n, rfl⟩ : ∃ n, n = k := ⟨_, rfl⟩
 have hL : Snd I G n (bl (fun q => if q < n then iC (stF sts q) else 0) n) := by
  refine ⟨bl_len _ _, fun q y h => ?_, fun q y h hb => ?_, fun q y d h hi => ?_⟩
  all_goals
   obtain ⟨hq, rfl⟩ := bl_inv h
   have hf1 := hfin q hq
  ·try simp only
   rw [if_pos hq]
   unfold iC; split <;> omega
  ·try simp only at hb ⊢
   rw [if_pos hq] at hb ⊢
   unfold iC at hb ⊢
   split
   ·rename_i e; rw [if_pos e] at hb; omega
   rename_i e; exact .init q _ (hini.2 ⟨hq, rfl, e⟩)
  obtain ⟨_, h2, h3⟩ := hini.1 hi
  try simp only
  rw [if_pos hq]
  unfold iC
  rw [h2, if_neg h3]
  exact Nat.le_refl _
 obtain ⟨L, hLd⟩ : ∃ L, (bl (fun q => if q < n then iC (stF sts q) else 0) n) = L := ⟨_, rfl⟩
 rw [hLd] at hL ⊢
 apply AW.seq
 apply AW.sr
 iterate 3 refine AL.z ?_
 apply AL.nil
 try simp only [nd]
 refine AW.condF rfl ?_
 refine AW.exit ?_
 try simp only [thenS, inBlockS, ↓reduceIte, Nat.reduceEqDiff]
 apply AW.seq
 apply AW.sr
 refine AL.z ?_
 apply AL.nil
 try simp only [nd]
 apply AW.block
 refine AW.loop (fun s' => ∃ (k : Nat) (L : List Nat), k ≤ n ∧ Snd I G n L ∧ (k ≤ stlN I G L n ∨ Lst I G n L) ∧ s' = ⟨102, [(1, .ref 1 0), (3, .i n), (4, .own 14 1 n false), (6, .i k)], [(1, ⟨24, [.i st, .d (stsD sts)], false, 0⟩), (14, ⟨3, L.map V.n, false, 1⟩)], []⟩) (fun s' => n - s'.nat 6) ⟨_, ?_, 0, L, by omega, hL, .inl zT15, rfl⟩ ?_
 ·exact Less.a0
 rintro s' ⟨k, L0, hk, hL0, hc, rfl⟩
 by_cases hlt : k < n
 ·skip
  apply AW.seq
  apply AW.sr
  iterate 3 refine AL.z ?_
  apply AL.nil
  try simp only [nd]
  refine AW.condT rfl ?_
  apply AW.skip
  try simp only [thenS]
  apply AW.seq
  apply AW.block
  apply AW.sr
  refine AL.z ?_
  apply AL.nil
  try simp only [nd]
  apply AW.block
  refine AW.loop (fun s' => ∃ (q : Nat) (L : List Nat), q ≤ n ∧ Rd I G n k L0 (fun _ p _ => p < q) L ∧ s' = ⟨102, [(1, .ref 1 0), (3, .i n), (4, .own 14 1 n false), (6, .i k), (7, .i q)], [(1, ⟨24, [.i st, .d (stsD sts)], false, 0⟩), (14, ⟨3, L.map V.n, false, 1⟩)], []⟩) (fun s' => n - s'.nat 7) ⟨_, ?_, 0, L0, by omega, (Rd.begin hL0 hc).skip (fun q p w x y h => absurd h zT15), rfl⟩ ?_
  ·exact Less.a0
  rintro s' ⟨q, L, hq, hR, rfl⟩
  by_cases hlq : q < n
  ·obtain ⟨x, hx⟩ := get_lt hn hlq
   obtain ⟨la, hla⟩ : ∃ n, x.arcs.length = n := ⟨_, rfl⟩
   have hla' := hal4 x (List.mem_of_getElem? hx)
   rw [hla] at hla'
   have edge_q : ∀ {p w : Nat}, G p q w → ∃ (j : Nat) (a : Ar), x.arcs[j]? = some a ∧ a.t = (p : Int) ∧ a.w = (w : Int) := by
    intro p w h
    obtain ⟨x', j, a, h1, h2, h3, h4⟩ := hed.1 h
    rw [hx] at h1
    simp only [Option.some.injEq] at h1
    subst h1
    exact ⟨j, a, h2, h3, h4⟩
   apply AW.seq
   apply AW.sr
   iterate 3 refine AL.z ?_
   apply AL.nil
   try simp only [nd]
   refine AW.condT rfl ?_
   apply AW.skip
   try simp only [thenS]
   apply AW.seq
   apply AW.block
   apply AW.sr
   refine AL.z ?_
   apply AL.nil
   try simp only [nd]
   apply AW.block
   refine AW.loop (fun s' => ∃ (i : Nat) (L : List Nat), i ≤ la ∧ Rd I G n k L0 (fun p q' w => q' < q ∨ q' = q ∧ ∃ (j : Nat) (a : Ar), j < i ∧ x.arcs[j]? = some a ∧ a.t = (p : Int) ∧ a.w = (w : Int)) L ∧ s' = ⟨102, [(1, .ref 1 0), (3, .i n), (4, .own 14 1 n false), (6, .i k), (7, .i q), (8, .i i)], [(1, ⟨24, [.i st, .d (stsD sts)], false, 0⟩), (14, ⟨3, L.map V.n, false, 1⟩)], []⟩) (fun s' => la - s'.nat 8) ⟨_, ?_, 0, L, by omega, hR.skip (fun q' p w a b h => ?_), rfl⟩ ?_
   ·exact Less.a0
   ·rcases h with h | ⟨_, j, _, h, _⟩
    ·exact .inl h
    exact absurd h zT15
   rintro s' ⟨i, L, hi, hR, rfl⟩
   obtain ⟨c, hcp⟩ := get_lt hR.snd.len hlq
   have hcb := hR.snd.le q c hcp
   have hpL : q < L.length := by rw [hR.snd.len]; exact hlq
   by_cases hil : i < la
   ·obtain ⟨y, hy⟩ := get_lt hla hil
    have hyt := (hz x (List.mem_of_getElem? hx)).2 y (List.mem_of_getElem? hy)
    obtain ⟨yi, yo, yw, yt⟩ := y
    simp only [arOk, decide_eq_true_eq] at hyt
    obtain ⟨p, rfl⟩ : ∃ p : Nat, yt = p := ⟨yt.toNat, by omega⟩
    obtain ⟨w, rfl⟩ : ∃ w : Nat, yw = w := ⟨yw.toNat, by omega⟩
    have hpn : p < n := by omega
    obtain ⟨d, hd⟩ := get_lt hR.snd.len hpn
    have hdb := hR.snd.le p d hd
    have hG1 : G p q w := hed.2 ⟨x, i, _, hx, hy, rfl, rfl⟩
    have hskip : (∀ x0 y0 : Nat, L0[p]? = some x0 → L[q]? = some y0 → y0 ≤ x0 + w) → Rd I G n k L0 (fun p q' w => q' < q ∨ q' = q ∧ ∃ (j : Nat) (a : Ar), j < i + 1 ∧ x.arcs[j]? = some a ∧ a.t = (p : Int) ∧ a.w = (w : Int)) L := fun hle => hR.skip fun p' q' w' x0 y0 h => by
     rcases h with h | ⟨rfl, j, a, h2, h3, h4, h5⟩
     ·exact .inl (.inl h)
     by_cases e : j = i
     ·subst e
      rw [hy] at h3
      simp only [Option.some.injEq] at h3
      subst h3
      simp only at h4 h5
      obtain rfl : p = p' := by omega
      obtain rfl : w = w' := by omega
      exact .inr fun _ h6 h7 => hle x0 y0 h6 h7
     exact .inl (.inr ⟨rfl, j, a, by omega, h3, h4, h5⟩)
    by_cases hnone : d = big
    ·have hR' := hskip fun x0 y0 h1 h2 => by
      have := hR.low p d x0 hd h1
      have := hR.snd.le q y0 h2
      omega
     apply AW.seq
     apply AW.sr
     iterate 9 refine AL.z ?_
     apply AL.nil
     try simp only [nd]
     refine AW.condT rfl ?_
     apply AW.skip
     try simp only [thenS]
     apply AW.seq
     apply AW.block
     apply AW.sr
     iterate 9 refine AL.z ?_
     refine AL.sm rfl (sm_alloc (l := [.d (.p (.int .i64 0)), .d (.p (.int .i64 0)), .d (.p (.int .i64 0)), .d (.p (.int .i64 0))]) 9 inf47 rfl zT1 rfl rfl) ?_
     refine AL.y ?_
     apply AL.nil
     try simp only [nd, setL, V.cs, nz, Nat.reduceAdd, nm, ns]
     apply AW.seq
     refine AW.draw [(0, true), (1, true), (2, true), (3, true), (4, true), (5, true), (6, true), (7, true), (8, true), (9, true), (10, true), (11, true), (12, true), (13, true), (14, true), (15, true), (16, true), (17, true), (18, true), (19, true), (20, true)] (fun i => !([] : List Nat).contains i) 21 zT12 zT12 rfl zT12 ?_
     iterate 7 refine AD1.z ?_
     refine AD1.no rfl rfl rfl rfl rfl (fun _ _ h => h) ?_
     refine AD1.no rfl rfl rfl rfl rfl (fun _ _ h => h) ?_
     refine AD1.no rfl rfl rfl rfl rfl (fun _ _ h => h) ?_
     refine AD1.no rfl rfl rfl rfl rfl (fun _ _ h => h) ?_
     refine AD1.no rfl rfl rfl rfl rfl (fun _ _ h => h) ?_
     refine AD1.no rfl rfl rfl rfl rfl (fun _ _ h => h) ?_
     refine AD1.no rfl rfl rfl rfl rfl (fun _ _ h => h) ?_
     refine AD1.no rfl rfl rfl rfl rfl (fun _ _ h => h) ?_
     refine AD1.no rfl rfl rfl rfl rfl (fun _ _ h => h) ?_
     refine AD1.no rfl rfl rfl rfl rfl (fun _ _ h => h) ?_
     refine AD1.no rfl rfl rfl rfl rfl (fun _ _ h => h) ?_
     refine AD1.no rfl rfl rfl rfl rfl (fun _ _ h => h) ?_
     refine AD1.no rfl rfl rfl rfl rfl (fun _ _ h => h) ?_
     refine AD1.z ?_
     refine AD1.nil ?_
     try simp only [nd]
     refine AW.condF rfl ?_
     apply AW.skip
     try simp only [thenS]
     apply AW.region
     iterate 3 refine AL.z ?_
     apply AL.nil
     try simp only [nd]
     refine ⟨_, ?_, ⟨i + 1, L, by omega, hR', rfl⟩, ?_⟩
     ·exact Less.a0
     simp [S.nat, fnd]; omega
    by_cases hless : d + w < c
    ·have hR' := hR.set hG1 hd zT15 (fun y0 h => by rw [hcp] at h; simp only [Option.some.injEq] at h; omega) hlq (D' := fun p q' w => q' < q ∨ q' = q ∧ ∃ (j : Nat) (a : Ar), j < i + 1 ∧ x.arcs[j]? = some a ∧ a.t = (p : Int) ∧ a.w = (w : Int)) (fun p' q' w' h => by
      rcases h with h | ⟨h1, j, a, h2, h3, h4, h5⟩
      ·exact .inl (.inl h)
      by_cases e : j = i
      ·subst e
       rw [hy] at h3
       simp only [Option.some.injEq] at h3
       subst h3
       simp only at h4 h5
       exact .inr ⟨by omega, h1, by omega⟩
      exact .inl (.inr ⟨h1, j, a, by omega, h3, h4, h5⟩))
     apply AW.seq
     apply AW.sr
     iterate 9 refine AL.z ?_
     apply AL.nil
     try simp only [nd]
     refine AW.condT rfl ?_
     apply AW.skip
     try simp only [thenS]
     apply AW.seq
     apply AW.block
     apply AW.sr
     iterate 9 refine AL.z ?_
     refine AL.sm rfl (sm_alloc (l := [.d (.p (.int .i64 0)), .d (.p (.int .i64 0)), .d (.p (.int .i64 0)), .d (.p (.int .i64 0))]) 9 inf47 rfl zT1 rfl rfl) ?_
     refine AL.y ?_
     apply AL.nil
     try simp only [nd, setL, V.cs, nz, Nat.reduceAdd, nm, ns]
     apply AW.seq
     refine AW.draw [(0, true), (1, true), (2, true), (3, true), (4, true), (5, true), (6, true), (7, true), (8, true), (9, true), (10, true), (11, true), (12, true), (13, true), (14, true), (15, true), (16, true), (17, true), (18, true), (19, true), (20, true)] (fun i => !([] : List Nat).contains i) 21 zT12 zT12 rfl zT12 ?_
     iterate 7 refine AD1.z ?_
     iterate 13 refine AD1.zy ?_
     refine AD1.z ?_
     refine AD1.nil ?_
     try simp only [nd]
     refine AW.condT rfl ?_
     refine AW.draw [(0, true), (1, true), (2, true), (3, true), (4, true), (5, true), (6, true), (7, true), (8, true), (9, true), (10, true), (11, false)] (fun i => !([11] : List Nat).contains i) 12 zT12 zT12 rfl zT12 ?_
     iterate 11 refine AD1.z ?_
     refine AD1.go ?_
     refine AD2.go ?_
     refine AD3.st rfl rfl rfl (st_store_map2 (v := d + w) inf3 rfl rfl rfl rfl rfl rfl rfl rfl zT9) ?_
     refine AD3.nil ?_
     try simp only [nd, setL, V.cs, nz, Nat.reduceAdd, nm, ns]
     apply AW.region
     iterate 3 refine AL.z ?_
     apply AL.nil
     try simp only [nd]
     refine ⟨_, ?_, ⟨i + 1, L.set q (d + w), by omega, hR', rfl⟩, ?_⟩
     ·exact Less.a0
     simp [S.nat, fnd]; omega
    have hR' := hskip fun x0 y0 h1 h2 => by
     rw [hcp] at h2
     simp only [Option.some.injEq] at h2
     have := hR.low p d x0 hd h1
     omega
    apply AW.seq
    apply AW.sr
    iterate 9 refine AL.z ?_
    apply AL.nil
    try simp only [nd]
    refine AW.condT rfl ?_
    apply AW.skip
    try simp only [thenS]
    apply AW.seq
    apply AW.block
    apply AW.sr
    iterate 9 refine AL.z ?_
    refine AL.sm rfl (sm_alloc (l := [.d (.p (.int .i64 0)), .d (.p (.int .i64 0)), .d (.p (.int .i64 0)), .d (.p (.int .i64 0))]) 9 inf47 rfl zT1 rfl rfl) ?_
    refine AL.y ?_
    apply AL.nil
    try simp only [nd, setL, V.cs, nz, Nat.reduceAdd, nm, ns]
    apply AW.seq
    refine AW.draw [(0, true), (1, true), (2, true), (3, true), (4, true), (5, true), (6, true), (7, true), (8, true), (9, true), (10, true), (11, true), (12, true), (13, true), (14, true), (15, true), (16, true), (17, true), (18, true), (19, true), (20, true)] (fun i => !([] : List Nat).contains i) 21 zT12 zT12 rfl zT12 ?_
    iterate 7 refine AD1.z ?_
    iterate 13 refine AD1.zy ?_
    refine AD1.z ?_
    refine AD1.nil ?_
    try simp only [nd]
    refine AW.condF rfl ?_
    apply AW.skip
    try simp only [thenS]
    apply AW.region
    iterate 3 refine AL.z ?_
    apply AL.nil
    try simp only [nd]
    refine ⟨_, ?_, ⟨i + 1, L, by omega, hR', rfl⟩, ?_⟩
    ·exact Less.a0
    simp [S.nat, fnd]; omega
   have hR' : Rd I G n k L0 (fun _ p _ => p < q + 1) L := ⟨hR.snd, hR.snd0, hR.low, hR.cnt, fun p' q' w' x0 y0 h hg h1 h2 => by
    by_cases e : q' = q
    ·subst e
     obtain ⟨j, a, h3, h4, h5⟩ := edge_q hg
     exact hR.seen p' q' w' x0 y0 (.inr ⟨rfl, j, a, by have := (List.getElem?_eq_some_iff.1 h3).1; omega, h3, h4, h5⟩) hg h1 h2
    exact hR.seen p' q' w' x0 y0 (.inl zT15) hg h1 h2⟩
   apply AW.seq
   apply AW.sr
   iterate 9 refine AL.z ?_
   apply AL.nil
   try simp only [nd]
   refine AW.condF rfl ?_
   refine AW.exit ?_
   try simp only [thenS, inBlockS, ↓reduceIte, Nat.reduceEqDiff]
   apply AW.region
   iterate 3 refine AL.z ?_
   apply AL.nil
   try simp only [nd]
   refine ⟨_, ?_, ⟨q + 1, L, by omega, hR', rfl⟩, ?_⟩
   ·exact Less.a0
   simp [S.nat, fnd]; omega
  obtain ⟨hs, hc'⟩ := hR.finish hin (fun q d h => (hini.1 h).1) (fun p q' w h => by have := (hin p q' w h).2; omega)
  apply AW.seq
  apply AW.sr
  iterate 3 refine AL.z ?_
  apply AL.nil
  try simp only [nd]
  refine AW.condF rfl ?_
  refine AW.exit ?_
  try simp only [thenS, inBlockS, ↓reduceIte, Nat.reduceEqDiff]
  apply AW.region
  iterate 3 refine AL.z ?_
  apply AL.nil
  try simp only [nd]
  refine ⟨_, ?_, ⟨k + 1, L, by omega, hs, hc', rfl⟩, ?_⟩
  ·exact Less.a0
  simp [S.nat, fnd]; omega
 have hLD := Rd.all hL0 hc zT15
 rw [← hDD] at hLD
 have hll := hL0.len
 subst hLD
 apply AW.seq
 apply AW.sr
 iterate 3 refine AL.z ?_
 apply AL.nil
 try simp only [nd]
 refine AW.condF rfl ?_
 refine AW.exit ?_
 try simp only [thenS, inBlockS, ↓reduceIte, Nat.reduceEqDiff]
 apply AW.seq
 refine AW.freeze 4 8 (L0.map encN) rfl rfl rfl (by simp [hll]) zT15 (rows1 rfl) ?_
 apply AW.region
 iterate 2 refine AL.z ?_
 apply AL.nil
 try simp only [nd]
 apply AW.ret
 exact ⟨[_], ⟨rfl, trivial⟩, rfl, by simp [tupOf, V.pure, V.has]⟩
theorem am_FarEnds0 (m : Mach) : Fn Tryz.prog 46 [mV m] (resI (disE (enD m) m) (disL (enD m) m)) := by
 by_cases h0 : machE m = 0
 ·have hres := fun v => dis_res (D := enD m) (v := v) h0
  have hends := am_ends m h0
  obtain ⟨h60, _⟩ := machE_zero h0
  have hlen : (enD m).length = m.states.length := by simp [enD, dstL]
  have hcosts := (am_costs (enD m) m.states.length hlen h60).mono (fun v => hres v)
  obtain ⟨st, sts⟩ := m
  obtain ⟨D, hD⟩ : ∃ D, enD ⟨st, sts⟩ = D := ⟨_, rfl⟩
  rw [hD] at hends hcosts ⊢
  by_cases he : disE D ⟨st, sts⟩ = 0
  ·have hcon := resI_eq hcosts he
   refine Fn.intro (n := 22) ⟨Tryz.func46, rfl, rfl, rfl, rfl⟩ zT8 zT16 fun w0 out => ?_
   apply AW.sr
   refine AL.sm rfl (sm_box 1 rfl rfl rfl rfl rfl) ?_
   iterate 2 refine AL.z ?_
   apply AL.nil
   try simp only [nd, setL, V.cs, nz, Nat.reduceAdd, nm, ns, enum]
   apply AW.sr
   refine AL.z ?_
   refine AL.call (post := ?pc13) rfl (sm_call (args := [_]) ?hc13 ⟨Tryz.func30, rfl, rfl, rfl, rfl⟩ rfl rfl rfl rfl) ?_
   case hc13 => exact Fn.eqi (am_Fault ⟨st, sts⟩) h0
   rintro _ rfl -
   try dsimp only
   refine AL.z ?_
   apply AL.nil
   try simp only [nd, setL, V.cs, nz, Nat.reduceAdd, nm, ns]
   apply AW.seq
   apply AW.sr
   iterate 2 refine AL.z ?_
   apply AL.nil
   try simp only [nd]
   refine AW.condF rfl ?_
   apply AW.skip
   try simp only [thenS]
   apply AW.sr
   refine AL.z ?_
   refine AL.call (post := ?pc14) rfl (sm_call (args := [_]) ?hc14 ⟨Tryz.func89, rfl, rfl, rfl, rfl⟩ rfl rfl rfl rfl) ?_
   case hc14 => exact hends
   rintro _ rfl -
   try dsimp only
   refine AL.z ?_
   apply AL.nil
   try simp only [nd, setL, V.cs, nz, Nat.reduceAdd, nm, ns]
   apply AW.sr
   refine AL.z ?_
   refine AL.call (post := ?pc15) rfl (sm_call (args := [_]) ?hc15 ⟨Tryz.func90, rfl, rfl, rfl, rfl⟩ rfl rfl rfl rfl) ?_
   case hc15 => exact hcon
   rintro _ rfl -
   try dsimp only
   iterate 5 refine AL.z ?_
   apply AL.nil
   try simp only [nd, setL, V.cs, nz, Nat.reduceAdd, nm, ns]
   apply AW.sr
   iterate 4 refine AL.z ?_
   apply AL.nil
   try simp only [nd]
   apply AW.ret
   exact ⟨[_, _], ⟨rfl, rfl, trivial⟩, .inr ⟨he, rfl⟩, by simp [tupOf, V.pure, V.has, V.hasL]⟩
  have hcon := resI_ne hcosts he
  refine Fn.intro (n := 22) ⟨Tryz.func46, rfl, rfl, rfl, rfl⟩ zT8 zT16 fun w0 out => ?_
  apply AW.sr
  refine AL.sm rfl (sm_box 1 rfl rfl rfl rfl rfl) ?_
  iterate 2 refine AL.z ?_
  apply AL.nil
  try simp only [nd, setL, V.cs, nz, Nat.reduceAdd, nm, ns, enum]
  apply AW.sr
  refine AL.z ?_
  refine AL.call (post := ?pc16) rfl (sm_call (args := [_]) ?hc16 ⟨Tryz.func30, rfl, rfl, rfl, rfl⟩ rfl rfl rfl rfl) ?_
  case hc16 => exact Fn.eqi (am_Fault ⟨st, sts⟩) h0
  rintro _ rfl -
  try dsimp only
  refine AL.z ?_
  apply AL.nil
  try simp only [nd, setL, V.cs, nz, Nat.reduceAdd, nm, ns]
  apply AW.seq
  apply AW.sr
  iterate 2 refine AL.z ?_
  apply AL.nil
  try simp only [nd]
  refine AW.condF rfl ?_
  apply AW.skip
  try simp only [thenS]
  apply AW.sr
  refine AL.z ?_
  refine AL.call (post := ?pc17) rfl (sm_call (args := [_]) ?hc17 ⟨Tryz.func89, rfl, rfl, rfl, rfl⟩ rfl rfl rfl rfl) ?_
  case hc17 => exact hends
  rintro _ rfl -
  try dsimp only
  refine AL.z ?_
  apply AL.nil
  try simp only [nd, setL, V.cs, nz, Nat.reduceAdd, nm, ns]
  apply AW.sr
  refine AL.z ?_
  refine AL.call (post := ?pc18) rfl (sm_call (args := [_]) ?hc18 ⟨Tryz.func90, rfl, rfl, rfl, rfl⟩ rfl rfl rfl rfl) ?_
  case hc18 => exact hcon
  rintro _ rfl -
  try dsimp only
  iterate 5 refine AL.z ?_
  apply AL.nil
  try simp only [nd, setL, V.cs, nz, Nat.reduceAdd, nm, ns]
  apply AW.sr
  iterate 4 refine AL.z ?_
  apply AL.nil
  try simp only [nd]
  apply AW.ret
  exact ⟨[_, _], ⟨rfl, rfl, trivial⟩, .inl ⟨he, rfl⟩, by simp [tupOf, V.pure, V.has, V.hasL]⟩
 have hE : disE (enD m) m = machE m := by unfold disE; rw [if_pos h0]
 have hL : disL (enD m) m = [] := by unfold disL; rw [if_neg (by rw [hE]; exact h0)]
 rw [hE, hL]
 obtain ⟨st, sts⟩ := m
 obtain ⟨e, he⟩ : ∃ e, machE ⟨st, sts⟩ = e := ⟨_, rfl⟩
 rw [he] at h0 ⊢
 refine Fn.intro (n := 22) ⟨Tryz.func46, rfl, rfl, rfl, rfl⟩ zT8 zT16 fun w0 out => ?_
 apply AW.sr
 refine AL.sm rfl (sm_box 1 rfl rfl rfl rfl rfl) ?_
 iterate 2 refine AL.z ?_
 apply AL.nil
 try simp only [nd, setL, V.cs, nz, Nat.reduceAdd, nm, ns, enum]
 apply AW.sr
 refine AL.z ?_
 refine AL.call (post := ?pc19) rfl (sm_call (args := [_]) ?hc19 ⟨Tryz.func30, rfl, rfl, rfl, rfl⟩ rfl rfl rfl rfl) ?_
 case hc19 => exact Fn.eqi (am_Fault ⟨st, sts⟩) he
 rintro _ rfl -
 try dsimp only
 refine AL.z ?_
 apply AL.nil
 try simp only [nd, setL, V.cs, nz, Nat.reduceAdd, nm, ns]
 apply AW.seq
 apply AW.sr
 iterate 2 refine AL.z ?_
 apply AL.nil
 try simp only [nd]
 refine AW.condT rfl ?_
 apply AW.sr
 iterate 3 refine AL.z ?_
 apply AL.nil
 try simp only [nd]
 apply AW.ret
 exact ⟨[_, _], ⟨rfl, rfl, trivial⟩, .inl ⟨h0, rfl⟩, by simp [tupOf, V.pure, V.has, V.hasL]⟩
section
variable {c : Cx} {s : S} {Q : Exit → S → Prop} {L : List Oper} {n : Nat} {l l' : Array Bool} {i j k : Nat} {o : Oper}
def AN (c : Cx) (ops : Array Oper) (Q : Exit → S → Prop) (n : Nat) (l : Array Bool) (s : S) : Prop := closedL .any ops l → ∀ g a w, Sim c g s a w → anyN c.P .any ops (QQ c Q) (fun _ => True) (fun _ => true) n l a w
theorem AN.rp {v : V} (hi : L[i]? = some o) (hg : o.guard = none) (hd : dok s o = true) (hp : noP Q) (hok : (Region.noSelect L.toArray && (Region.ready .any L.toArray l).contains i && Region.free .any L.toArray l i) = true) (hl : l.setIfInBounds i true = l') (h : RP c o s v) (hN : AN c L.toArray Q n l' (s.put o.dst v)) : AN c L.toArray Q (n + 1) l s := by
  intro hcl g a w hs
  simp only [Bool.and_eq_true] at hok
  obtain ⟨⟨h1, h2⟩, h3⟩ := hok
  obtain ⟨x, h4, h5⟩ := h g a w hs
  have hr : i ∈ Region.ready .any L.toArray l := by simpa using h2
  have hi' : L.toArray[i]? = some o := by simpa using hi
  subst hl
  exact anyN_early (N := 0) (oi := o) (fun j hj hlt => .inl rfl) hi' (Region.noSelect_spec h1) (QQ_noP hp _ _) n l a w hcl (Region.free_spec hi' h3) hr (.inl ⟨by simp [Region.wanted, hg], fun w' _ => h5 w'⟩) trivial (hN (closed_set hcl hr) g _ w (hs.put o.dst (dok_spec hd) h4))
def BR (c : Cx) (L : List Oper) (Q : Exit → S → Prop) (n : Nat) (l : Array Bool) (s : S) (i : Nat) : Prop := closedL .any L.toArray l → i ∈ Region.ready .any L.toArray l → ∀ g a w, Sim c g s a w → wpOp c.P L.toArray (QQ c Q) i (fun a' w' => ((fun _ => true) i = true → (fun _ => True) w') ∧ anyN c.P .any L.toArray (QQ c Q) (fun _ => True) (fun _ => true) n (l.setIfInBounds i true) a' w') a w
theorem BR.mk (hi : L[i]? = some o) (hg : o.guard = none) (hl : l.setIfInBounds i true = l') (h : Step c o s (AN c L.toArray Q n l')) : BR c L Q n l s i := fun hcl hr g a w hs =>
  wpOp_of (by simpa using hi) hg (h g a w hs _ _ fun g' s' a' w' hn hs' => ⟨fun _ => trivial, by rw [hl]; exact hn (hl ▸ closed_set hcl hr) g' a' w' hs'⟩)
theorem AN.br {rs : List Nat} (hr : Region.ready .any L.toArray l = rs) (hne : rs ≠ []) (h : ∀ i ∈ rs, BR c L Q n l s i) : AN c L.toArray Q (n + 1) l s := by
  intro hcl g a w hs
  exact ⟨fun h0 => absurd (hr.symm.trans h0) hne, fun j hj => h j (hr ▸ hj) hcl hj g a w hs⟩
theorem AN.br1 (hr : Region.ready .any L.toArray l = [i]) (h : BR c L Q n l s i) : AN c L.toArray Q (n + 1) l s := AN.br hr zT16 fun x hx => by
  obtain rfl := List.mem_singleton.1 hx
  exact h
theorem AN.br2 (hr : Region.ready .any L.toArray l = [i, j]) (h : BR c L Q n l s i) (h2 : BR c L Q n l s j) : AN c L.toArray Q (n + 1) l s := AN.br hr zT16 fun x hx => by
  simp only [List.mem_cons, List.not_mem_nil, or_false] at hx
  rcases hx with rfl | rfl
  · exact h
  exact h2
theorem AN.nil (hr : Region.ready .any L.toArray l = []) (h : Q .normal s) : AN c L.toArray Q 0 l s := fun hcl g a w hs => ⟨hr, g, s, h, hs⟩
theorem ST.rd {N : S → Prop} {v : V} (hd : dok s o = true) (h : RD c o s v) (hN : N (s.put o.dst v)) : Step c o s N := by
  intro g a w hs K Q hK
  obtain ⟨x, h1, h2⟩ := h g a w hs
  unfold Oper.wp
  rw [h2 w (Below.refl _ _)]
  exact hK g _ _ _ hN (hs.put o.dst (dok_spec hd) h1)
theorem ST.st {N : S → Prop} {X : S} (h : Step c o s (fun s' => s' = X)) (hN : N X) : Step c o s N := fun g a w hs K Q hK => h g a w hs K Q fun g' s' a' w' h1 h2 => hK g' s' a' w' (by rw [h1]; exact hN) h2
theorem AW.drawT {id : Nat} {N : S} (n : Nat) (hm : c.P.follows .mixedOrders = true) (hlen : L.length = n) (hl : Array.replicate n false = l) (h : AN c L.toArray (QJ N) n l s) (hN : Q .normal N) : AW c (.region id L.toArray true) Q s := by
  intro g a w hs
  refine wp_mono (Q := QQ c (QJ N)) ?_ (fun e a w hq => by
    obtain ⟨g', s', h3, h4⟩ := hq
    cases e <;> first | exact ⟨g', N, hN, h4.less h3⟩ | exact h3.elim)
  refine wp_region_any hm ?_
  have hs' : Sim c g s a w.drew := hs.move (Below.drew (Below.refl _ _))
  subst hl hlen
  have h1 := any_of_anyN _ _ _ _ (h (by
    intro j oj _ hl
    rw [Array.getD_eq_getD_getElem?, Array.getElem?_replicate] at hl
    split at hl <;> simp at hl) g a _ hs')
  simpa using h1
end
end Go.Proofs.YthiknkcigcglkaaGreatDoor
