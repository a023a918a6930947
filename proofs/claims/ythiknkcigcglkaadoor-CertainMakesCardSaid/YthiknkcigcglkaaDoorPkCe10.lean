/- Part 10 of what the law CertainMakes rests on. -/
import Derived.Test.YthiknkcigcglkaaDoorPkCe1
import Derived.Test.YthiknkcigcglkaaDoorPkCe2
import Derived.Test.YthiknkcigcglkaaDoorPkCe3
import Derived.Test.YthiknkcigcglkaaDoorPkCe4
import Derived.Test.YthiknkcigcglkaaDoorPkCe5
import Derived.Test.YthiknkcigcglkaaDoorPkCe6
import Derived.Test.YthiknkcigcglkaaDoorPkCe7
import Derived.Test.YthiknkcigcglkaaDoorPkCe8
import Derived.Test.YthiknkcigcglkaaDoorPkCe9
namespace Go.Proofs.YthiknkcigcglkaaDoor
open Go.RowKit
set_option linter.unusedSimpArgs false
set_option linter.unusedVariables false
set_option maxRecDepth 100000
set_option maxHeartbeats 8000000
abbrev encQ (t : Int × Int) : Value := .agg #[.int .i64 t.1, .int .i64 t.2]
theorem eqQ0 (a1 a2 b1 b2 : Int) (w : World) : (Op.equalIn 10000 51 (.agg #[.int .i64 a1, .int .i64 a2]) (.agg #[.int .i64 b1, .int .i64 b2])).run Tryd.prog w = .ok (a1 == b1 && a2 == b2) w := by
 simp [go_sem]
 by_cases h1 : a1 = b1 <;> by_cases h2 : a2 = b2 <;> simp [h1, h2]
theorem eqQ (a b : Int × Int) (w : World) : (Op.equal 51 (encQ a) (encQ b)).run Tryd.prog w = .ok (decide (a = b)) w := by
 obtain ⟨a1, a2⟩ := a
 obtain ⟨b1, b2⟩ := b
 refine (eqQ0 a1 a2 b1 b2 w).trans ?_
 congr 1
 rw [Bool.eq_iff_iff]
 simp
theorem checkQ (b : Bool) (a : Int × Int) (w : World) : (Instr.checkKey b 10000 51 (encQ a)).run Tryd.prog w = .ok () w := by
 have : ∀ n : Nat, (Instr.checkKey b (n + 2) 51 (encQ a)).run Tryd.prog w = .ok () w := fun n => by
  simp [encQ, Instr.checkKey, go_sem]
 exact this 9998
theorem askQ (a : Int × Int) (w : World) : ∀ (l : List ((Int × Int) × Value)) (i j : Nat), (Instr.findAsking 51 (encQ a) (((l.map fun x => (encQ x.1, x.2)).zipIdx j).map fun x => ({ key := x.1.1, val := x.1.2, born := x.2 } : MapEntry)) i).run Tryd.prog w = .ok (kfind l a i) w
 | [], i, j => by simp [Instr.findAsking, kfind]
 | (k, v) :: l, i, j => by
  have ih := askQ a w l (i + 1) (j + 1)
  simp only [List.map_cons, List.zipIdx_cons, Instr.findAsking, Sem.run_bind, eqQ, Result.andThen_ok, kfind] at ih ⊢
  by_cases e : a = k
  ·subst e; simp
  simp only [e, decide_false, if_false]
  simpa using ih
theorem keyG51 : KeyG Tryd.prog 51 encQ := by
 refine ⟨checkQ, fun l a w => ?_, fun a => ?_⟩
 ·have hnow : ∀ (l : List ((Int × Int) × Value)) (j : Nat), l ≠ [] → ∀ fs, Instr.findNow (.struct fs) (encQ a) (((l.map fun x => (encQ x.1, x.2)).zipIdx j).map fun x => ({ key := x.1.1, val := x.1.2, born := x.2 } : MapEntry)) 0 = none := by
   intro l j hl fs
   cases l with
   | nil => exact absurd rfl hl
   | cons x l => simp [List.zipIdx_cons, Instr.findNow, Instr.sameNow]
  simp only [Instr.findKey, Sem.run_bind, run_underlying Tryd.underlying51, Result.andThen_ok, ments, List.toList_toArray]
  by_cases hl : l = []
  ·subst hl; simp [Instr.findNow, kfind]
  rw [hnow l 0 hl]
  exact askQ a w l 0 0
 have : ∀ n : Nat, Instr.sameBits (n + 2) (encQ a) (encQ a) = true := fun n => by simp [Instr.sameBits]
 exact this 9998
theorem keyE51 {w : World} {q : Nat → Prop} {g : Nat → Nat × Nat} {a b : Int} {v : Value} (h : VRep w q g (.agg [.i a, .i b]) v) : v = encQ (a, b) := by
 cases h with
 | agg _ cs hl h =>
  match cs, hl with
  | [x, y], _ =>
   rw [VRep.p_eq (h 0 _ _ rfl rfl), VRep.p_eq (h 1 _ _ rfl rfl)]
theorem mpsR_pts (l : List (Nat × Nat)) : D.mpsR (l.map ptD) = false := mpsR_map _ (fun _ => rfl) l
theorem mm_at {L : RcL} {k : Int × Int} {j : Nat} {lj : List (Int × Int)} (h : L[j]? = some (k, lj)) : (mmr encQ L)[j]? = some (encQ k, mrows vI lj) := by
 rw [List.getElem?_map, h]; rfl
theorem am_reached (st : Int) (sts : List St) (l : List (Nat × Nat)) (hl : l.length ≤ 1000) (hb : ∀ x ∈ l, ptOk x ∧ x.1 < sts.length) (h60 : sts.length ≤ 60) (hx4 : ∀ x ∈ sts, x.arcs.length ≤ 400) (hw : ∀ x ∈ sts, ∀ a ∈ x.arcs, 0 ≤ a.w ∧ a.w ≤ 1000000000) : Fn Tryd.prog 11 [.d (ptsD l), mV ⟨st, sts⟩] (fun v => v = .d (.mm (mmr encQ (rcP sts l)))) := by
 obtain ⟨n, hn⟩ : ∃ n, l.length = n := ⟨_, rfl⟩
 obtain ⟨ns, hns⟩ : ∃ ns, sts.length = ns := ⟨_, rfl⟩
 rw [hn] at hl
 rw [hns] at h60 hb
 refine Fn.intro (n := 77) ⟨Tryd.func11, rfl, rfl, rfl, rfl⟩ zT8 zT14 fun w0 out => ?_
 apply AW.sr
 refine AL.sm rfl (sm_box 3 rfl rfl rfl rfl rfl) ?_
 refine AL.z ?_
 apply AL.nil
 try simp only [nd, setL, V.cs, nz, Nat.reduceAdd, nm, ns, enum]
 apply AW.sr
 refine AL.sm rfl (sm_makeMM 41 rfl rfl rfl) ?_
 refine AL.z ?_
 apply AL.nil
 try simp only [nd, setL, V.cs, nz, Nat.reduceAdd, nm, ns]
 apply AW.seq
 apply AW.sr
 iterate 3 refine AL.z ?_
 apply AL.nil
 try simp only [nd]
 apply AW.block
 refine AW.loop (fun s' => ∃ (k : Nat) (L : RcL), k ≤ n ∧ (l.drop k).foldl (rcS sts) L = rcP sts l ∧ s' = ⟨77, [(3, .ref 3 0), (5, .mm 41 w0.heap.size (mmr encQ L, (mmr encQ L).length, none)), (14, .d (ptsD l)), (15, .i n), (16, .i k)], [(3, ⟨24, [.i st, .d (stsD sts)], false, 0⟩)], []⟩) (fun s' => n - s'.nat 16) ⟨_, ?_, 0, [], by omega, rfl, rfl⟩ ?_
 ·exact Less.a0
 rintro s' ⟨k, L, hk, hR, rfl⟩
 by_cases hlt : k < n
 ·obtain ⟨x, hx⟩ := get_lt hn hlt
  obtain ⟨⟨b1, b2⟩, b3⟩ := hb x (List.mem_of_getElem? hx)
  obtain ⟨y, hy⟩ := get_lt hns b3
  have hy4 := hx4 y (List.mem_of_getElem? hy)
  have hyw := hw y (List.mem_of_getElem? hy)
  have hsA : stA sts x.1 = y.arcs := stA_of hy
  have hdr := List.getElem?_eq_some_iff.1 hx
  rw [List.drop_eq_getElem_cons hdr.1, hdr.2, List.foldl_cons] at hR
  obtain ⟨p, q⟩ := x
  obtain ⟨f, A⟩ := y
  simp only at b1 b2 b3 hy hy4 hyw hsA
  have hS : rcS sts L (p, q) = A.foldl (fun L a => rcA L q a) L := by unfold rcS; rw [hsA]
  rw [hS] at hR
  obtain ⟨la, hla⟩ : ∃ la, A.length = la := ⟨_, rfl⟩
  rw [hla] at hy4
  obtain ⟨L9, hL9⟩ : ∃ L9, A.foldl (fun L a => rcA L (q : Int) a) L = L9 := ⟨_, rfl⟩
  rw [hL9] at hR
  clear hS hsA hdr
  apply AW.sr
  refine AL.z ?_
  apply AL.nil
  try simp only [nd]
  apply AW.seq
  refine AW.condT rfl ?_
  apply AW.skip
  try simp only [thenS]
  apply AW.seq
  apply AW.block
  apply AW.sr
  iterate 2 refine AL.z ?_
  refine AL.sm rfl (sm_alloc (l := [.d (.p (.int .i64 0)), .d (.p (.int .i64 0))]) 7 inf39 rfl rfl rfl rfl) ?_
  refine AL.y ?_
  apply AL.nil
  try simp only [nd, setL, V.cs, nz, Nat.reduceAdd, nm, ns]
  apply AW.sr
  iterate 9 refine AL.z ?_
  apply AL.nil
  try simp only [nd]
  apply AW.block
  refine AW.loop (fun s' => ∃ (i : Nat) (L' : RcL), i ≤ la ∧ (A.drop i).foldl (fun L a => rcA L (q : Int) a) L' = L9 ∧ s' = ⟨77, [(3, .ref 3 0), (5, .mm 41 w0.heap.size (mmr encQ L', (mmr encQ L').length, none)), (14, .d (ptsD l)), (15, .i n), (16, .i k), (7, .ref 7 0), (26, .d (arsD A)), (27, .i la), (28, .i i)], [(3, ⟨24, [.i st, .d (stsD sts)], false, 0⟩), (7, ⟨39, [.i (p : Int), .i (q : Int)], false, 0⟩)], []⟩) (fun s' => la - s'.nat 28) ⟨_, ?_, 0, L, by omega, hL9, rfl⟩ ?_
  ·exact Less.a0
  clear hL9
  rintro s' ⟨i, L', hi, hL9, rfl⟩
  by_cases hil : i < la
  ·obtain ⟨a, ha⟩ := get_lt hla hil
   have hyw1 := hyw a (List.mem_of_getElem? ha)
   have hda := List.getElem?_eq_some_iff.1 ha
   rw [List.drop_eq_getElem_cons hda.1, hda.2, List.foldl_cons] at hL9
   clear hda
   obtain ⟨ai, ao, aw, at'⟩ := a
   simp only at hyw1
   cases h1 : kfind L' (ai, ao) 0 with
   | none =>
    have hs := rcA_new (c := (q : Int)) (a := ⟨ai, ao, aw, at'⟩) h1
    have h2 := kfind_new h1
    rw [hs] at hL9
    have hg : mget ([] : List (Int × Int)) at' = none := rfl
    apply AW.sr
    refine AL.z ?_
    apply AL.nil
    try simp only [nd]
    apply AW.seq
    refine AW.condT rfl ?_
    apply AW.skip
    try simp only [thenS]
    apply AW.seq
    apply AW.block
    apply AW.sr
    iterate 2 refine AL.z ?_
    refine AL.sm rfl (sm_alloc (l := [.d (.p (.int .i64 0)), .d (.p (.int .i64 0)), .d (.p (.int .i64 0)), .d (.p (.int .i64 0))]) 9 inf60 rfl rfl rfl rfl) ?_
    refine AL.y ?_
    apply AL.nil
    try simp only [nd, setL, V.cs, nz, Nat.reduceAdd, nm, ns]
    apply AW.sr
    iterate 4 refine AL.z ?_
    refine AL.rp rfl rfl (rp_build (vs := [(0, _), (1, _)]) (zs := [.d (.p (.int .i64 0)), .d (.p (.int .i64 0))]) pl51 inf51 rfl rfl rfl rfl) ?_
    refine AL.sm rfl (sm_alloc (l := [.d (.p (.int .i64 0)), .d (.p (.int .i64 0))]) 10 inf51 rfl rfl rfl rfl) ?_
    refine AL.y ?_
    apply AL.nil
    try simp only [nd, setL, V.cs, nz, Nat.reduceAdd, nm, ns]
    apply AW.seq
    apply AW.sr
    iterate 2 refine AL.z ?_
    refine AL.rd rfl rfl (rd_lookupMM_miss keyG51 Tryd.underlying47 inf57 rfl rfl (fun g a w hs => keyE51 (hs.ev rfl)) zT11) ?_
    refine AL.rp rfl rfl (rp_eqmN Tryd.underlying57 rfl rfl rfl) ?_
    apply AL.nil
    try simp only [nd]
    refine AW.condT rfl ?_
    apply AW.region
    iterate 2 refine AL.z ?_
    refine AL.sm rfl (sm_makeMM2 5 41 w0.heap.size (encQ (ai, ao)) rfl rfl rfl rfl) ?_
    refine AL.st rfl (st_mapUpdateMM keyG51 Tryd.underlying47 rfl rfl rfl (fun g a w hs => keyE51 (hs.ev rfl)) rfl zT11 rfl (by simp [S.put, S.newObj, setL, V.cs, V.mpsL, V.mps, D.mps, D.mpsL, D.mpsR, mpsR_ars, mpsR_sts, mpsR_pts, V.one]) rfl) ?_
    simp only [S.put, List.map_cons, List.map_nil, List.take_succ_cons, List.take_zero, List.drop_succ_cons, List.drop_zero, List.length_cons, List.length_nil, Nat.zero_add, Nat.reduceAdd, upMM_p, upMM_ref, upMM_own, upMM_junk, upMM_tup2, upMM_agg2, upMM_agg4, upMM_none, upMM_some, upMM_d, D.mps, mpsR_ars, mpsR_sts, mpsR_pts]
    apply AL.nil
    try simp only [nd, setL, V.cs, nz, Nat.reduceAdd, nm, ns]
    apply AW.seq
    clear h1 hs
    have h3 := kfind_some h2
    generalize L' ++ [((ai, ao), [])] = L1 at h2 h3 hL9 ⊢
    generalize L'.length = j at h2 h3 hL9
    have h4 := mm_at h3
    refine AW.draw [(0, true), (1, true), (2, true), (3, true), (4, true), (5, true), (6, true), (7, true), (8, true), (9, true), (10, true)] (fun i => !([] : List Nat).contains i) 11 zT10 zT10 rfl zT10 ?_
    iterate 2 refine AD1.z ?_
    refine AD1.rd rfl rfl rfl (fun _ _ h => h) (rd_lookupMM_hit keyG51 Tryd.underlying47 inf57 rfl rfl (fun g a w hs => keyE51 (hs.ev rfl)) zT11) ?_
    iterate 2 refine AD1.z ?_
    refine AD1.rd rfl rfl rfl (fun _ _ h => h) (rd_lookupMI_miss Tryd.underlying3 Tryd.underlying57 inf3 rfl rfl zT11 rfl zT11) ?_
    iterate 5 refine AD1.z ?_
    refine AD1.nil ?_
    try simp only [nd]
    apply AW.sr
    iterate 3 refine AL.z ?_
    refine AL.noV rfl rfl rfl rfl ?_
    refine AL.noV rfl rfl rfl rfl ?_
    refine AL.noV rfl rfl rfl rfl ?_
    refine AL.noV rfl rfl rfl rfl ?_
    refine AL.noV rfl rfl rfl rfl ?_
    refine AL.noV rfl rfl rfl rfl ?_
    refine AL.noV rfl rfl rfl rfl ?_
    refine AL.z ?_
    apply AL.nil
    try simp only [nd]
    refine AW.condT rfl ?_
    refine AW.draw [(0, true), (1, true), (2, true), (3, true), (4, true), (5, true), (6, true), (7, true), (8, true), (9, true), (10, false)] (fun i => !([10] : List Nat).contains i) 11 zT10 zT10 rfl zT10 ?_
    iterate 2 refine AD1.z ?_
    refine AD1.rd rfl rfl rfl (fun _ _ h => h) (rd_lookupMM_hit keyG51 Tryd.underlying47 inf57 rfl rfl (fun g a w hs => keyE51 (hs.ev rfl)) zT11) ?_
    iterate 7 refine AD1.z ?_
    refine AD1.go ?_
    refine AD2.go ?_
    refine AD3.st rfl rfl rfl (st_mapUpdateMI Tryd.underlying3 Tryd.underlying57 rfl rfl rfl zT11 rfl rfl rfl (by simp [S.put, S.newObj, setL, V.cs, V.mpsL, V.mps, D.mps, D.mpsL, D.mpsR, mpsR_ars, mpsR_sts, mpsR_pts, V.one]) rfl) ?_
    simp only [S.put, List.map_cons, List.map_nil, List.take_succ_cons, List.take_zero, List.drop_succ_cons, List.drop_zero, List.length_cons, List.length_nil, Nat.zero_add, Nat.reduceAdd, upMM_p, upMM_ref, upMM_own, upMM_junk, upMM_tup2, upMM_agg2, upMM_agg4, upMM_none, upMM_some, upMM_d, D.mps, mpsR_ars, mpsR_sts, mpsR_pts]
    refine AD3.nil ?_
    try simp only [nd, setL, V.cs, nz, Nat.reduceAdd, nm, ns]
    apply AW.region
    iterate 2 refine AL.z ?_
    apply AL.nil
    try simp only [nd]
    refine ⟨_, ?_, ⟨i + 1, _, by omega, hL9, rfl⟩, ?_⟩
    ·exact Less.a0
    simp [S.nat, fnd]; omega
   | some jl =>
    obtain ⟨j, lj⟩ := jl
    have h3 := kfind_some h1
    have h4 := mm_at h3
    cases h5 : mget lj at' with
    | none =>
     rw [rcA_put h1 (.inl h5)] at hL9
     apply AW.sr
     refine AL.z ?_
     apply AL.nil
     try simp only [nd]
     apply AW.seq
     refine AW.condT rfl ?_
     apply AW.skip
     try simp only [thenS]
     apply AW.seq
     apply AW.block
     apply AW.sr
     iterate 2 refine AL.z ?_
     refine AL.sm rfl (sm_alloc (l := [.d (.p (.int .i64 0)), .d (.p (.int .i64 0)), .d (.p (.int .i64 0)), .d (.p (.int .i64 0))]) 9 inf60 rfl rfl rfl rfl) ?_
     refine AL.y ?_
     apply AL.nil
     try simp only [nd, setL, V.cs, nz, Nat.reduceAdd, nm, ns]
     apply AW.sr
     iterate 4 refine AL.z ?_
     refine AL.rp rfl rfl (rp_build (vs := [(0, _), (1, _)]) (zs := [.d (.p (.int .i64 0)), .d (.p (.int .i64 0))]) pl51 inf51 rfl rfl rfl rfl) ?_
     refine AL.sm rfl (sm_alloc (l := [.d (.p (.int .i64 0)), .d (.p (.int .i64 0))]) 10 inf51 rfl rfl rfl rfl) ?_
     refine AL.y ?_
     apply AL.nil
     try simp only [nd, setL, V.cs, nz, Nat.reduceAdd, nm, ns]
     apply AW.seq
     apply AW.sr
     iterate 2 refine AL.z ?_
     refine AL.rd rfl rfl (rd_lookupMM_hit keyG51 Tryd.underlying47 inf57 rfl rfl (fun g a w hs => keyE51 (hs.ev rfl)) zT11) ?_
     refine AL.rp rfl rfl (rp_eqmS Tryd.underlying57 rfl rfl rfl) ?_
     apply AL.nil
     try simp only [nd]
     refine AW.condF rfl ?_
     apply AW.skip
     try simp only [thenS]
     apply AW.seq
     refine AW.draw [(0, true), (1, true), (2, true), (3, true), (4, true), (5, true), (6, true), (7, true), (8, true), (9, true), (10, true)] (fun i => !([] : List Nat).contains i) 11 zT10 zT10 rfl zT10 ?_
     iterate 2 refine AD1.z ?_
     refine AD1.rd rfl rfl rfl (fun _ _ h => h) (rd_lookupMM_hit keyG51 Tryd.underlying47 inf57 rfl rfl (fun g a w hs => keyE51 (hs.ev rfl)) zT11) ?_
     iterate 2 refine AD1.z ?_
     refine AD1.rd rfl rfl rfl (fun _ _ h => h) (rd_lookupMI_miss Tryd.underlying3 Tryd.underlying57 inf3 rfl rfl zT11 rfl zT11) ?_
     iterate 5 refine AD1.z ?_
     refine AD1.nil ?_
     try simp only [nd]
     apply AW.sr
     iterate 3 refine AL.z ?_
     refine AL.noV rfl rfl rfl rfl ?_
     refine AL.noV rfl rfl rfl rfl ?_
     refine AL.noV rfl rfl rfl rfl ?_
     refine AL.noV rfl rfl rfl rfl ?_
     refine AL.noV rfl rfl rfl rfl ?_
     refine AL.noV rfl rfl rfl rfl ?_
     refine AL.noV rfl rfl rfl rfl ?_
     refine AL.z ?_
     apply AL.nil
     try simp only [nd]
     refine AW.condT rfl ?_
     refine AW.draw [(0, true), (1, true), (2, true), (3, true), (4, true), (5, true), (6, true), (7, true), (8, true), (9, true), (10, false)] (fun i => !([10] : List Nat).contains i) 11 zT10 zT10 rfl zT10 ?_
     iterate 2 refine AD1.z ?_
     refine AD1.rd rfl rfl rfl (fun _ _ h => h) (rd_lookupMM_hit keyG51 Tryd.underlying47 inf57 rfl rfl (fun g a w hs => keyE51 (hs.ev rfl)) zT11) ?_
     iterate 7 refine AD1.z ?_
     refine AD1.go ?_
     refine AD2.go ?_
     refine AD3.st rfl rfl rfl (st_mapUpdateMI Tryd.underlying3 Tryd.underlying57 rfl rfl rfl zT11 rfl rfl rfl (by simp [S.put, S.newObj, setL, V.cs, V.mpsL, V.mps, D.mps, D.mpsL, D.mpsR, mpsR_ars, mpsR_sts, mpsR_pts, V.one]) rfl) ?_
     simp only [S.put, List.map_cons, List.map_nil, List.take_succ_cons, List.take_zero, List.drop_succ_cons, List.drop_zero, List.length_cons, List.length_nil, Nat.zero_add, Nat.reduceAdd, upMM_p, upMM_ref, upMM_own, upMM_junk, upMM_tup2, upMM_agg2, upMM_agg4, upMM_none, upMM_some, upMM_d, D.mps, mpsR_ars, mpsR_sts, mpsR_pts]
     refine AD3.nil ?_
     try simp only [nd, setL, V.cs, nz, Nat.reduceAdd, nm, ns]
     apply AW.region
     iterate 2 refine AL.z ?_
     apply AL.nil
     try simp only [nd]
     refine ⟨_, ?_, ⟨i + 1, _, by omega, hL9, rfl⟩, ?_⟩
     ·exact Less.a0
     simp [S.nat, fnd]; omega
    | some w =>
     by_cases c3 : (q : Int) + aw < w
     ·rw [rcA_put h1 (.inr ⟨w, h5, c3⟩)] at hL9
      apply AW.sr
      refine AL.z ?_
      apply AL.nil
      try simp only [nd]
      apply AW.seq
      refine AW.condT rfl ?_
      apply AW.skip
      try simp only [thenS]
      apply AW.seq
      apply AW.block
      apply AW.sr
      iterate 2 refine AL.z ?_
      refine AL.sm rfl (sm_alloc (l := [.d (.p (.int .i64 0)), .d (.p (.int .i64 0)), .d (.p (.int .i64 0)), .d (.p (.int .i64 0))]) 9 inf60 rfl rfl rfl rfl) ?_
      refine AL.y ?_
      apply AL.nil
      try simp only [nd, setL, V.cs, nz, Nat.reduceAdd, nm, ns]
      apply AW.sr
      iterate 4 refine AL.z ?_
      refine AL.rp rfl rfl (rp_build (vs := [(0, _), (1, _)]) (zs := [.d (.p (.int .i64 0)), .d (.p (.int .i64 0))]) pl51 inf51 rfl rfl rfl rfl) ?_
      refine AL.sm rfl (sm_alloc (l := [.d (.p (.int .i64 0)), .d (.p (.int .i64 0))]) 10 inf51 rfl rfl rfl rfl) ?_
      refine AL.y ?_
      apply AL.nil
      try simp only [nd, setL, V.cs, nz, Nat.reduceAdd, nm, ns]
      apply AW.seq
      apply AW.sr
      iterate 2 refine AL.z ?_
      refine AL.rd rfl rfl (rd_lookupMM_hit keyG51 Tryd.underlying47 inf57 rfl rfl (fun g a w hs => keyE51 (hs.ev rfl)) zT11) ?_
      refine AL.rp rfl rfl (rp_eqmS Tryd.underlying57 rfl rfl rfl) ?_
      apply AL.nil
      try simp only [nd]
      refine AW.condF rfl ?_
      apply AW.skip
      try simp only [thenS]
      apply AW.seq
      refine AW.draw [(0, true), (1, true), (2, true), (3, true), (4, true), (5, true), (6, true), (7, true), (8, true), (9, true), (10, true)] (fun i => !([] : List Nat).contains i) 11 zT10 zT10 rfl zT10 ?_
      iterate 2 refine AD1.z ?_
      refine AD1.rd rfl rfl rfl (fun _ _ h => h) (rd_lookupMM_hit keyG51 Tryd.underlying47 inf57 rfl rfl (fun g a w hs => keyE51 (hs.ev rfl)) zT11) ?_
      iterate 2 refine AD1.z ?_
      refine AD1.rd rfl rfl rfl (fun _ _ h => h) (rd_lookupMI_hit Tryd.underlying3 Tryd.underlying57 inf3 rfl rfl zT11 rfl zT11) ?_
      iterate 5 refine AD1.z ?_
      refine AD1.nil ?_
      try simp only [nd]
      apply AW.sr
      iterate 3 refine AL.z ?_
      iterate 7 refine AL.zy ?_
      refine AL.z ?_
      apply AL.nil
      try simp only [nd]
      refine AW.condT rfl ?_
      refine AW.draw [(0, true), (1, true), (2, true), (3, true), (4, true), (5, true), (6, true), (7, true), (8, true), (9, true), (10, false)] (fun i => !([10] : List Nat).contains i) 11 zT10 zT10 rfl zT10 ?_
      iterate 2 refine AD1.z ?_
      refine AD1.rd rfl rfl rfl (fun _ _ h => h) (rd_lookupMM_hit keyG51 Tryd.underlying47 inf57 rfl rfl (fun g a w hs => keyE51 (hs.ev rfl)) zT11) ?_
      iterate 7 refine AD1.z ?_
      refine AD1.go ?_
      refine AD2.go ?_
      refine AD3.st rfl rfl rfl (st_mapUpdateMI Tryd.underlying3 Tryd.underlying57 rfl rfl rfl zT11 rfl rfl rfl (by simp [S.put, S.newObj, setL, V.cs, V.mpsL, V.mps, D.mps, D.mpsL, D.mpsR, mpsR_ars, mpsR_sts, mpsR_pts, V.one]) rfl) ?_
      simp only [S.put, List.map_cons, List.map_nil, List.take_succ_cons, List.take_zero, List.drop_succ_cons, List.drop_zero, List.length_cons, List.length_nil, Nat.zero_add, Nat.reduceAdd, upMM_p, upMM_ref, upMM_own, upMM_junk, upMM_tup2, upMM_agg2, upMM_agg4, upMM_none, upMM_some, upMM_d, D.mps, mpsR_ars, mpsR_sts, mpsR_pts]
      refine AD3.nil ?_
      try simp only [nd, setL, V.cs, nz, Nat.reduceAdd, nm, ns]
      apply AW.region
      iterate 2 refine AL.z ?_
      apply AL.nil
      try simp only [nd]
      refine ⟨_, ?_, ⟨i + 1, _, by omega, hL9, rfl⟩, ?_⟩
      ·exact Less.a0
      simp [S.nat, fnd]; omega
     rw [rcA_old h1 h5 c3] at hL9
     apply AW.sr
     refine AL.z ?_
     apply AL.nil
     try simp only [nd]
     apply AW.seq
     refine AW.condT rfl ?_
     apply AW.skip
     try simp only [thenS]
     apply AW.seq
     apply AW.block
     apply AW.sr
     iterate 2 refine AL.z ?_
     refine AL.sm rfl (sm_alloc (l := [.d (.p (.int .i64 0)), .d (.p (.int .i64 0)), .d (.p (.int .i64 0)), .d (.p (.int .i64 0))]) 9 inf60 rfl rfl rfl rfl) ?_
     refine AL.y ?_
     apply AL.nil
     try simp only [nd, setL, V.cs, nz, Nat.reduceAdd, nm, ns]
     apply AW.sr
     iterate 4 refine AL.z ?_
     refine AL.rp rfl rfl (rp_build (vs := [(0, _), (1, _)]) (zs := [.d (.p (.int .i64 0)), .d (.p (.int .i64 0))]) pl51 inf51 rfl rfl rfl rfl) ?_
     refine AL.sm rfl (sm_alloc (l := [.d (.p (.int .i64 0)), .d (.p (.int .i64 0))]) 10 inf51 rfl rfl rfl rfl) ?_
     refine AL.y ?_
     apply AL.nil
     try simp only [nd, setL, V.cs, nz, Nat.reduceAdd, nm, ns]
     apply AW.seq
     apply AW.sr
     iterate 2 refine AL.z ?_
     refine AL.rd rfl rfl (rd_lookupMM_hit keyG51 Tryd.underlying47 inf57 rfl rfl (fun g a w hs => keyE51 (hs.ev rfl)) zT11) ?_
     refine AL.rp rfl rfl (rp_eqmS Tryd.underlying57 rfl rfl rfl) ?_
     apply AL.nil
     try simp only [nd]
     refine AW.condF rfl ?_
     apply AW.skip
     try simp only [thenS]
     apply AW.seq
     refine AW.draw [(0, true), (1, true), (2, true), (3, true), (4, true), (5, true), (6, true), (7, true), (8, true), (9, true), (10, true)] (fun i => !([] : List Nat).contains i) 11 zT10 zT10 rfl zT10 ?_
     iterate 2 refine AD1.z ?_
     refine AD1.rd rfl rfl rfl (fun _ _ h => h) (rd_lookupMM_hit keyG51 Tryd.underlying47 inf57 rfl rfl (fun g a w hs => keyE51 (hs.ev rfl)) zT11) ?_
     iterate 2 refine AD1.z ?_
     refine AD1.rd rfl rfl rfl (fun _ _ h => h) (rd_lookupMI_hit Tryd.underlying3 Tryd.underlying57 inf3 rfl rfl zT11 rfl zT11) ?_
     iterate 5 refine AD1.z ?_
     refine AD1.nil ?_
     try simp only [nd]
     apply AW.sr
     iterate 3 refine AL.z ?_
     iterate 7 refine AL.zy ?_
     refine AL.z ?_
     apply AL.nil
     try simp only [nd]
     refine AW.condF rfl ?_
     apply AW.skip
     try simp only [thenS]
     apply AW.region
     iterate 2 refine AL.z ?_
     apply AL.nil
     try simp only [nd]
     refine ⟨_, ?_, ⟨i + 1, _, by omega, hL9, rfl⟩, ?_⟩
     ·exact Less.a0
     simp [S.nat, fnd]; omega
  rw [List.drop_of_length_le zT13] at hL9
  simp only [List.foldl_nil] at hL9
  subst hL9
  apply AW.sr
  refine AL.z ?_
  apply AL.nil
  try simp only [nd]
  apply AW.seq
  refine AW.condF rfl ?_
  refine AW.exit ?_
  try simp only [thenS, inBlockS, ↓reduceIte, Nat.reduceEqDiff]
  apply AW.region
  iterate 2 refine AL.z ?_
  apply AL.nil
  try simp only [nd]
  refine ⟨_, ?_, ⟨k + 1, L', by omega, hR, rfl⟩, ?_⟩
  ·exact Less.a0
  simp [S.nat, fnd]; omega
 rw [List.drop_of_length_le zT13] at hR
 simp only [List.foldl_nil] at hR
 rw [← hR]
 apply AW.sr
 refine AL.z ?_
 apply AL.nil
 try simp only [nd]
 apply AW.seq
 refine AW.condF rfl ?_
 refine AW.exit ?_
 try simp only [thenS, inBlockS, ↓reduceIte, Nat.reduceEqDiff]
 apply AW.seq
 refine AW.freezeMM 5 rfl rfl rfl ?_
 apply AW.region
 iterate 2 refine AL.z ?_
 apply AL.nil
 try simp only [nd]
 apply AW.ret
 exact ⟨[_], ⟨rfl, trivial⟩, rfl, by simp [tupOf, V.pure, V.has, V.hasL]⟩
section
variable {P : Program} (w : World)
end
section
variable {c : Cx} {s : S} {o : Oper} {Q : Exit → S → Prop} {α : Type}
end
theorem Less.cell {s : S} (b j : Nat) (v' : V) {row : Row} {u : V} (hb : fnd s.H b = some row) (hj : row.cells[j]? = some u) (hw : Wk v' u) : Less ⟨s.n, s.T, (b, { row with cells := row.cells.set j v' }) :: s.H, s.K⟩ s := by
  refine ⟨rfl, fun i v h => ⟨v, h, .refl _⟩, fun k row' hk => ?_, fun j v h => ⟨v, h, .refl _⟩⟩
  simp only [fnd] at hk
  split at hk
  · rename_i e
    simp only [beq_iff_eq] at e
    subst e
    simp only [Option.some.injEq] at hk
    subst hk
    refine ⟨row, hb, rfl, rfl, rfl, fun i v hv => ?_⟩
    simp only at hv
    rw [List.getElem?_set] at hv
    split at hv
    · rename_i e
      subst e
      rw [if_pos (List.getElem?_eq_some_iff.1 hj).1] at hv
      simp only [Option.some.injEq] at hv
      subst hv
      exact ⟨u, hj, hw⟩
    exact ⟨v, hv, .refl _⟩
  exact ⟨row', hk, rfl, rfl, rfl, fun j v hv => ⟨v, hv, .refl _⟩⟩


theorem am_Told_none (x : Nat) (h : x = big) : Fn Tryd.prog 17 [.i (x : Int)] (fun v => v = .tup [.i ((1000000001 : Nat) : Int), .i 0]) := by
 have hbig := big_eq
 refine Fn.intro (n := 9) ⟨Tryd.func17, rfl, rfl, rfl, rfl⟩ zT8 zT14 fun w0 out => ?_
 apply AW.sr
 iterate 2 refine AL.z ?_
 apply AL.nil
 try simp only [thenS, S.put, enum, List.nil_append, List.cons_append, List.append_nil, Nat.zero_add, Nat.reduceAdd]
 apply AW.seq
 apply AW.sr
 iterate 2 refine AL.z ?_
 apply AL.nil
 try simp only [nd]
 refine AW.condT rfl ?_
 apply AW.sr
 iterate 2 refine AL.z ?_
 apply AL.nil
 try simp only [nd]
 apply AW.ret
 exact ⟨[_, _], ⟨rfl, rfl, trivial⟩, rfl, by simp [tupOf, V.pure, V.has, V.hasL]⟩
theorem am_Told_over (x : Nat) (h : x ≠ big) (h2 : 1000000000 < x) : Fn Tryd.prog 17 [.i (x : Int)] (fun v => v = .tup [.i 0, .i 4]) := by
 have hbig := big_eq
 refine Fn.intro (n := 9) ⟨Tryd.func17, rfl, rfl, rfl, rfl⟩ zT8 zT14 fun w0 out => ?_
 apply AW.sr
 iterate 2 refine AL.z ?_
 apply AL.nil
 try simp only [thenS, S.put, enum, List.nil_append, List.cons_append, List.append_nil, Nat.zero_add, Nat.reduceAdd]
 apply AW.seq
 apply AW.sr
 iterate 2 refine AL.z ?_
 apply AL.nil
 try simp only [nd]
 refine AW.condF rfl ?_
 apply AW.skip
 try simp only [thenS]
 apply AW.seq
 apply AW.sr
 iterate 2 refine AL.z ?_
 apply AL.nil
 try simp only [nd]
 refine AW.condT rfl ?_
 apply AW.sr
 iterate 2 refine AL.z ?_
 apply AL.nil
 try simp only [nd]
 apply AW.ret
 exact ⟨[_, _], ⟨rfl, rfl, trivial⟩, rfl, by simp [tupOf, V.pure, V.has, V.hasL]⟩
theorem am_Told_ok (x : Nat) (h : x ≠ big) (h2 : x ≤ 1000000000) : Fn Tryd.prog 17 [.i (x : Int)] (fun v => v = .tup [.i (x : Int), .i 0]) := by
 have hbig := big_eq
 refine Fn.intro (n := 9) ⟨Tryd.func17, rfl, rfl, rfl, rfl⟩ zT8 zT14 fun w0 out => ?_
 apply AW.sr
 iterate 2 refine AL.z ?_
 apply AL.nil
 try simp only [thenS, S.put, enum, List.nil_append, List.cons_append, List.append_nil, Nat.zero_add, Nat.reduceAdd]
 apply AW.seq
 apply AW.sr
 iterate 2 refine AL.z ?_
 apply AL.nil
 try simp only [nd]
 refine AW.condF rfl ?_
 apply AW.skip
 try simp only [thenS]
 apply AW.seq
 apply AW.sr
 iterate 2 refine AL.z ?_
 apply AL.nil
 try simp only [nd]
 refine AW.condF rfl ?_
 apply AW.skip
 try simp only [thenS]
 apply AW.sr
 iterate 3 refine AL.z ?_
 apply AL.nil
 try simp only [nd]
 apply AW.ret
 exact ⟨[_, _], ⟨rfl, rfl, trivial⟩, rfl, by simp [tupOf, V.pure, V.has, V.hasL]⟩
abbrev P2 : Type := Int × Int
abbrev encP (p : P2) : Value := .agg #[.int .i64 p.1, .int .i64 p.2]
theorem range2 : List.range' 0 2 = [0, 1] := rfl
theorem eqP1 (n : Nat) (a1 a2 b1 b2 : Int) (w : World) : (Op.equalIn (n + 2) 73 (.agg #[.int .i64 a1, .int .i64 a2]) (.agg #[.int .i64 b1, .int .i64 b2])).run Tryd.prog w = .ok (decide (a1 = b1) && decide (a2 = b2)) w := by
 have hi : ∀ (x y : Int) (w : World), (Op.equalIn (n + 1) 3 (.int .i64 x) (.int .i64 y)).run Tryd.prog w = .ok (x == y) w := fun x y w => by simp [go_sem]
 unfold Op.equalIn
 simp only [Sem.run_bind, run_underlying Tryd.underlying73, Result.andThen_ok]
 by_cases h1 : a1 = b1 <;> by_cases h2 : a2 = b2 <;> simp [range2, go_sem, hi, h1, h2]
theorem eqP0 (a1 a2 b1 b2 : Int) (w : World) : (Op.equalIn 10000 73 (.agg #[.int .i64 a1, .int .i64 a2]) (.agg #[.int .i64 b1, .int .i64 b2])).run Tryd.prog w = .ok (decide (a1 = b1) && decide (a2 = b2)) w := eqP1 9998 a1 a2 b1 b2 w
theorem eqP (a b : P2) (w : World) : (Op.equal 73 (encP a) (encP b)).run Tryd.prog w = .ok (decide (a = b)) w := by
 obtain ⟨a1, a2⟩ := a
 obtain ⟨b1, b2⟩ := b
 refine (eqP0 a1 a2 b1 b2 w).trans ?_
 congr 1
 rw [Bool.eq_iff_iff]
 simp
theorem checkP (b : Bool) (a : P2) (w : World) : (Instr.checkKey b 10000 73 (encP a)).run Tryd.prog w = .ok () w := by
 have : ∀ n : Nat, (Instr.checkKey b (n + 2) 73 (encP a)).run Tryd.prog w = .ok () w := fun n => by
  have hi : ∀ (x : Int) (w : World), (Instr.checkKey b (n + 1) 3 (.int .i64 x)).run Tryd.prog w = .ok () w := fun x w => by simp [Instr.checkKey, go_sem]
  unfold Instr.checkKey
  simp only [Sem.run_bind, run_underlying Tryd.underlying73, Result.andThen_ok]
  simp [range2, encP, go_sem, hi]
 exact this 9998
theorem askP (a : P2) (w : World) : ∀ (l : List (P2 × Int)) (i j : Nat), (Instr.findAsking 73 (encP a) (((mrows encP l).zipIdx j).map fun x => ({ key := x.1.1, val := x.1.2, born := x.2 } : MapEntry)) i).run Tryd.prog w = .ok ((mfind l a i).map fun x => (x.1, .int .i64 x.2)) w
 | [], i, j => by simp [Instr.findAsking, mrows, mfind]
 | (k, v) :: l, i, j => by
  have ih := askP a w l (i + 1) (j + 1)
  simp only [mrows, List.map_cons, List.zipIdx_cons, Instr.findAsking, Sem.run_bind, eqP, Result.andThen_ok, mfind] at ih ⊢
  by_cases e : a = k
  ·subst e; simp
  simp only [e, decide_false, if_false]
  simpa [mrows] using ih
theorem keyOk73 : KeyOk Tryd.prog 73 encP := by
 refine ⟨checkP, fun l a w => ?_, fun a => ?_⟩
 ·have hnow : ∀ (l : List (P2 × Int)) (j : Nat), l ≠ [] → ∀ n e, Instr.findNow (.array n e) (encP a) (((mrows encP l).zipIdx j).map fun x => ({ key := x.1.1, val := x.1.2, born := x.2 } : MapEntry)) 0 = none := by
   intro l j hl n e
   cases l with
   | nil => exact absurd rfl hl
   | cons x l => simp [mrows, List.zipIdx_cons, Instr.findNow, Instr.sameNow]
  simp only [Instr.findKey, Sem.run_bind, run_underlying Tryd.underlying73, Result.andThen_ok, ments, List.toList_toArray]
  by_cases hl : l = []
  ·subst hl; simp [mrows, Instr.findNow, mfind]
  rw [hnow l 0 hl]
  exact askP a w l 0 0
 have : ∀ n : Nat, Instr.sameBits (n + 2) (encP a) (encP a) = true := fun n => by simp [Instr.sameBits]
 exact this 9998
theorem keyE73 {w : World} {q : Nat → Prop} {g : Nat → Nat × Nat} {a b : Int} {v : Value} (h : VRep w q g (.agg [.i a, .i b]) v) : v = encP (a, b) := by
 cases h with
 | agg _ cs hl h =>
  match cs, hl with
  | [x, y], _ =>
   rw [VRep.p_eq (h 0 _ _ rfl rfl), VRep.p_eq (h 1 _ _ rfl rfl)]
theorem cmp_neq_73F {c : Cx} {s : S} {o : Oper} {t' : TypeId} {x y : Operand} {a1 a2 b1 b2 : Int} {r : Bool} (hP : c.P = Tryd.prog) (ho : o.op = .binOp .neq 73 x y t') (hx : s.ev x = some (.agg [.i a1, .i a2])) (hy : s.ev y = some (.agg [.i b1, .i b2])) (h : (!(decide (a1 = b1) && decide (a2 = b2))) = r) : RP c o s (.b r) := by
 subst h
 refine rp_bin_agg [.int .i64 a1, .int .i64 a2] [.int .i64 b1, .int .i64 b2] ho hx hy (fun w => ?_) (fun w => ?_)
 ·rw [hP]; simp [go_sem]
 rw [hP]
 have h2 : (Op.equal 73 (.agg #[.int .i64 a1, .int .i64 a2]) (.agg #[.int .i64 b1, .int .i64 b2])).run Tryd.prog w = _ := eqP0 a1 a2 b1 b2 w
 simp only [binOp, Sem.run_bind, h2, Result.andThen_ok]
 rfl
theorem upM_agg2 (r : Nat) (l : List (Value × Value)) (a b : Value) : upM r l (.agg [.d (.p a), .d (.p b)]) = .agg [.d (.p a), .d (.p b)] := rfl
section
variable {c : Cx} {s : S} {o : Oper} {K : Type} [DecidableEq K] {enc : K → Value}
theorem rd_lookup0 {t k e : TypeId} {bt : Nat} {x y : Operand} {r N : Nat} {l : List (K × Int)} {key : K} {v : Int} (hk : KeyOk c.P k enc) (hu : c.P.underlying t = some (.map k e)) (hi : Inf c.P e 1 bt (.int .i64 0)) (ho : o.op = .lookup t x y false) (hx : s.ev x = some (.mp r N (mrows enc l)) ∨ s.ev x = some (.d (.mp (mrows enc l)))) (hy : ∀ g a w, Sim c g s a w → a.eval y = enc key)
  (hv : (mget l key).getD 0 = v) : RD c o s (.i v) := rd_lookup (ok := false) hk hu hi ho hx hy (by rw [hv]; rfl)
end
theorem am_order (a b : Ar) : Fn Tryd.prog 25 [.agg ((arD a).map V.d), .agg ((arD b).map V.d)] (fun v => v = .i (ordC a b)) := by
 obtain ⟨ai, ao, aw, at'⟩ := a
 obtain ⟨bi, bo, bw, bt⟩ := b
 refine Fn.intro (n := 27) ⟨Tryd.func25, rfl, rfl, rfl, rfl⟩ zT8 zT14 fun w0 out => ?_
 apply AW.sr
 refine AL.sm rfl (sm_box 2 rfl rfl rfl rfl rfl) ?_
 refine AL.sm rfl (sm_box 3 rfl rfl rfl rfl rfl) ?_
 refine AL.z ?_
 apply AL.nil
 try simp only [nd, setL, V.cs, nz, Nat.reduceAdd, nm, ns, enum]
 apply AW.seq
 refine AW.draw [(0, true), (1, true), (2, true), (3, true), (5, true), (6, true), (7, true), (8, true), (10, true), (11, true), (12, true), (13, true), (15, true), (16, true), (17, true), (18, true), (4, false), (9, false), (14, false), (19, false), (20, false), (21, false), (22, false)] (fun i => !([] : List Nat).contains i) 23 zT10 zT10 rfl zT10 ?_
 iterate 16 refine AD1.z ?_
 refine AD1.go ?_
 refine AD2.call (post := ?pc0) rfl rfl (sm_call (args := [_, _]) ?hc0 ⟨Tryd.func33, rfl, rfl, rfl, rfl⟩ rfl rfl rfl rfl) ?_
 case hc0 => exact am_cmp ai bi
 rintro _ rfl -
 try dsimp only
 refine AD2.call (post := ?pc1) rfl rfl (sm_call (args := [_, _]) ?hc1 ⟨Tryd.func33, rfl, rfl, rfl, rfl⟩ rfl rfl rfl rfl) ?_
 case hc1 => exact am_cmp ao bo
 rintro _ rfl -
 try dsimp only
 refine AD2.call (post := ?pc2) rfl rfl (sm_call (args := [_, _]) ?hc2 ⟨Tryd.func33, rfl, rfl, rfl, rfl⟩ rfl rfl rfl rfl) ?_
 case hc2 => exact am_cmp at' bt
 rintro _ rfl -
 try dsimp only
 refine AD2.call (post := ?pc3) rfl rfl (sm_call (args := [_, _]) ?hc3 ⟨Tryd.func33, rfl, rfl, rfl, rfl⟩ rfl rfl rfl rfl) ?_
 case hc3 => exact am_cmp aw bw
 rintro _ rfl -
 try dsimp only
 refine AD2.sm rfl rfl (sm_slice (vs := [(0, _), (1, _), (2, _), (3, _)]) (zs := [.d (.p (.int .i64 0)), .d (.p (.int .i64 0)), .d (.p (.int .i64 0)), .d (.p (.int .i64 0))]) 25 Tryd.underlying61 inf3 rfl rfl zT12 zT12 zT12 rfl rfl rfl rfl rfl rfl rfl) ?_
 refine AD2.call (post := ?pc4) rfl rfl (sm_callr (args := ?ac4) (us := [_]) ?hc4 ?qc4 ⟨Tryd.func14, rfl, rfl, rfl, rfl⟩ rfl rfl rfl ?rc4 rfl) ?_
 case hc4 => exact am_Or [cmpI ai bi, cmpI ao bo, cmpI at' bt, cmpI aw bw]
 case qc4 => (intro v hv; first | (subst hv; first | trivial | (simp [V.plain]; done)) | (obtain ⟨_, rfl, _⟩ := hv; first | trivial | (simp [V.plain]; done)))
 case rc4 => exact .cons (.own 25 1 4 8 false _ ([cmpI ai bi, cmpI ao bo, cmpI at' bt, cmpI aw bw].map fun x => [D.p (.int .i64 x)]) rfl rfl rfl zT12 (rows1 (f := fun x => D.p (.int .i64 x)) (by simp [setL, V.cs]))) .nil
 rintro _ rfl -
 try dsimp only
 refine AD2.rp1 rfl rfl rfl (rp_assign rfl rfl) ?_
 refine AD2.nil ?_
 try simp only [nd, setL, V.cs, nz, Nat.reduceAdd, nm, ns]
 apply AW.ret
 exact ⟨[_], ⟨rfl, trivial⟩, rfl, by simp [tupOf, V.pure, V.has]⟩
theorem am_sorted (l : List Ar) (hb : l.length ≤ 400) : Fn Tryd.prog 24 [.d (arsD l), .fn 25 []] (fun v => v = .b (srtN l l.length)) := by
 rw [← adj_srt, adj_end (show l.length ≤ l.length + 1 by omega)]
 obtain ⟨n, hn⟩ : ∃ n, l.length = n := ⟨_, rfl⟩
 rw [hn] at hb ⊢
 obtain ⟨B, hB⟩ : ∃ B, adjN l (n - 1) = B := ⟨_, rfl⟩
 rw [hB]
 refine Fn.intro (n := 25) ⟨Tryd.func24, rfl, rfl, rfl, rfl⟩ zT8 zT14 fun w0 out => ?_
 apply AW.sr
 refine AL.z ?_
 apply AL.nil
 try simp only [thenS, S.put, enum, List.nil_append, List.cons_append, List.append_nil, Nat.zero_add, Nat.reduceAdd]
 apply AW.seq
 apply AW.sr
 iterate 4 refine AL.z ?_
 apply AL.nil
 try simp only [nd]
 apply AW.block
 refine AW.loop (fun s' => ∃ z : Int, -1 ≤ z ∧ z ≤ (n : Int) - 1 ∧ adjN l z.toNat = B ∧ s' = ⟨25, [(0, .d (arsD l)), (1, .fn 25 []), (5, .i z)], [], []⟩) (fun s' => s'.nat 5) ⟨_, ?_, (n : Int) - 1, by omega, by omega, by rw [show ((n : Int) - 1).toNat = n - 1 by omega]; exact hB, rfl⟩ ?_
 ·exact Less.a0
 rintro s' ⟨z, hz1, hz2, hz, rfl⟩
 by_cases hz0 : z > 0
 ·obtain ⟨k, rfl⟩ : ∃ k : Nat, z = ((k + 1 : Nat) : Int) := ⟨z.toNat - 1, by omega⟩
  obtain ⟨a, ha⟩ := get_lt hn (show k + 1 < n by omega)
  obtain ⟨b, hb'⟩ := get_lt hn (show k < n by omega)
  have hk1 : ((k + 1 : Nat) : Int) - 1 = (k : Int) := by omega
  rw [Int.toNat_natCast] at hz
  simp only [adjN, if_pos (show k + 1 < l.length by omega), arAt_of ha, arAt_of hb'] at hz
  have hcon := am_order a b
  have hneg := ordC_neg a b
  obtain ⟨oc, hoc⟩ : ∃ oc, ordC a b = oc := ⟨_, rfl⟩
  rw [hoc] at hcon hneg
  clear hoc
  cases hah : ahd a b with
  | true =>
   rw [hah] at hz hneg
   have h0 : oc < 0 := hneg.2 rfl
   obtain rfl : B = false := by rw [← hz]; rfl
   apply AW.seq
   apply AW.sr
   iterate 2 refine AL.z ?_
   apply AL.nil
   try simp only [nd]
   refine AW.condT rfl ?_
   apply AW.skip
   try simp only [thenS]
   apply AW.seq
   apply AW.block
   apply AW.seq
   refine AW.draw [(0, true), (1, true), (2, true), (3, true), (4, true), (5, true), (6, true), (7, true), (8, true), (9, true), (10, false), (11, false)] (fun i => !([] : List Nat).contains i) 12 zT10 zT10 rfl zT10 ?_
   iterate 8 refine AD1.z ?_
   refine AD1.rp rfl rfl rfl (fun _ _ h => h) (rp_index_map (k := k) Tryd.underlying31 inf60 rfl rfl rfl zT13 zT11) ?_
   refine AD1.z ?_
   refine AD1.go ?_
   refine AD2.call (post := ?pc5) rfl rfl (sm_callv (args := [_, _]) ?hc5 ⟨Tryd.func25, rfl, rfl, rfl, rfl⟩ rfl rfl rfl rfl) ?_
   case hc5 => exact hcon
   rintro _ rfl -
   try dsimp only
   (refine AD2.rp1 rfl rfl rfl (rp_lssT rfl rfl rfl zT3) ?_)
   refine AD2.nil ?_
   try simp only [nd, setL, V.cs, nz, Nat.reduceAdd, nm, ns]
   refine AW.condT rfl ?_
   apply AW.sr
   refine AL.z ?_
   apply AL.nil
   try simp only [nd]
   apply AW.ret
   exact ⟨[_], ⟨rfl, trivial⟩, rfl, by simp [tupOf, V.pure, V.has]⟩
  | false =>
   rw [hah] at hz hneg
   have h0 : ¬ oc < 0 := fun h => by have := hneg.1 h; cases this
   have hz' : adjN l k = B := by rw [← hz]; simp
   apply AW.seq
   apply AW.sr
   iterate 2 refine AL.z ?_
   apply AL.nil
   try simp only [nd]
   refine AW.condT rfl ?_
   apply AW.skip
   try simp only [thenS]
   apply AW.seq
   apply AW.block
   apply AW.seq
   refine AW.draw [(0, true), (1, true), (2, true), (3, true), (4, true), (5, true), (6, true), (7, true), (8, true), (9, true), (10, false), (11, false)] (fun i => !([] : List Nat).contains i) 12 zT10 zT10 rfl zT10 ?_
   iterate 8 refine AD1.z ?_
   refine AD1.rp rfl rfl rfl (fun _ _ h => h) (rp_index_map (k := k) Tryd.underlying31 inf60 rfl rfl rfl zT13 zT11) ?_
   refine AD1.z ?_
   refine AD1.go ?_
   refine AD2.call (post := ?pc6) rfl rfl (sm_callv (args := [_, _]) ?hc6 ⟨Tryd.func25, rfl, rfl, rfl, rfl⟩ rfl rfl rfl rfl) ?_
   case hc6 => exact hcon
   rintro _ rfl -
   try dsimp only
   (refine AD2.rp1 rfl rfl rfl (rp_lssF rfl rfl rfl zT3) ?_)
   refine AD2.nil ?_
   try simp only [nd, setL, V.cs, nz, Nat.reduceAdd, nm, ns]
   refine AW.condF rfl ?_
   apply AW.skip
   try simp only [thenS]
   apply AW.region
   iterate 3 refine AL.z ?_
   apply AL.nil
   try simp only [nd]
   refine ⟨_, ?_, ⟨k, by omega, by omega, by rw [Int.toNat_natCast]; exact hz', rfl⟩, ?_⟩
   ·rw [← hk1]; exact Less.a0
   simp [S.nat, fnd]
 obtain rfl : B = true := by rw [← hz, show z.toNat = 0 by omega]; rfl
 apply AW.seq
 apply AW.sr
 iterate 2 refine AL.z ?_
 apply AL.nil
 try simp only [nd]
 refine AW.condF rfl ?_
 refine AW.exit ?_
 try simp only [thenS, inBlockS, ↓reduceIte, Nat.reduceEqDiff]
 apply AW.sr
 refine AL.z ?_
 apply AL.nil
 try simp only [nd]
 apply AW.ret
 exact ⟨[_], ⟨rfl, trivial⟩, rfl, by simp [tupOf, V.pure, V.has]⟩
def prV (m : Mach) : V := if machE m = 0 then .agg [.b (bA m.states), .b (bFl m.states), .b (bDi m.states && bFl m.states), .b (bSo m.states), .b (bPl m.states)] else .agg [.b false, .b false, .b false, .b false, .b false]
theorem prV_ok {m : Mach} (h : machE m = 0) : prV m = .agg [.b (bA m.states), .b (bFl m.states), .b (bDi m.states && bFl m.states), .b (bSo m.states), .b (bPl m.states)] := by unfold prV; rw [if_pos h]
theorem prV_no {m : Mach} (h : machE m ≠ 0) : prV m = .agg [.b false, .b false, .b false, .b false, .b false] := by unfold prV; rw [if_neg h]
theorem cert_dec {k : Nat} {M : List (P2 × Int)} {l : List Ar} {i : Nat} {y : Ar} (h : Seen M (l.take i)) (hk : cntP (y.i, y.o) (l.take i) = k) : (mget (mput M (y.i, y.o) ((k : Int) + 1)) (y.i, y.o)).getD 0 = (k : Int) + 1 := by
 rw [mget_mput, if_pos rfl]; rfl
theorem am_Bits (m : Mach) : Fn Tryd.prog 8 [mV m] (fun v => v = .tup [prV m, .i (machE m)]) := by
 by_cases h0 : machE m = 0
 ·obtain ⟨h60, h400, hst, hz⟩ := machE_zero h0
  rw [prV_ok h0, h0]
  obtain ⟨st, sts⟩ := m
  simp only at h60 h400 hst hz ⊢
  have hal4 : ∀ x ∈ sts, x.arcs.length ≤ 400 := fun x hx => Nat.le_trans (arcN_mem sts x hx) h400
  obtain ⟨n, hn⟩ : ∃ n, sts.length = n := ⟨_, rfl⟩
  rw [hn] at h60
  clear h400 hst
  refine Fn.intro (n := 111) ⟨Tryd.func8, rfl, rfl, rfl, rfl⟩ zT8 zT14 fun w0 out => ?_
  apply AW.sr
  refine AL.sm rfl (sm_box 1 rfl rfl rfl rfl rfl) ?_
  refine AL.sm rfl (sm_alloc (l := [.d (.p (.bool false)), .d (.p (.bool false)), .d (.p (.bool false)), .d (.p (.bool false)), .d (.p (.bool false))]) 2 inf35 rfl rfl rfl rfl) ?_
  refine AL.z ?_
  apply AL.nil
  try simp only [nd, setL, V.cs, nz, Nat.reduceAdd, nm, ns, enum]
  apply AW.seq
  apply AW.sr
  refine AL.z ?_
  refine AL.call (post := ?pc0) rfl (sm_call (args := [_]) ?hc0 ⟨Tryd.func23, rfl, rfl, rfl, rfl⟩ rfl rfl rfl rfl) ?_
  case hc0 => exact Fn.eqi (am_Check ⟨st, sts⟩) h0
  rintro _ rfl -
  try dsimp only
  refine AL.z ?_
  apply AL.nil
  try simp only [nd, setL, V.cs, nz, Nat.reduceAdd, nm, ns]
  apply AW.sr
  iterate 2 refine AL.z ?_
  apply AL.nil
  try simp only [nd]
  refine AW.condF rfl ?_
  apply AW.skip
  try simp only [thenS]
  apply AW.sr
  refine AL.rp rfl rfl (rp_build (vs := [(0, _), (1, _), (2, _), (3, _), (4, _)]) (zs := [.d (.p (.bool false)), .d (.p (.bool false)), .d (.p (.bool false)), .d (.p (.bool false)), .d (.p (.bool false))]) pl35 inf35 rfl rfl rfl rfl) ?_
  refine AL.sm rfl (sm_alloc (l := [.d (.p (.bool false)), .d (.p (.bool false)), .d (.p (.bool false)), .d (.p (.bool false)), .d (.p (.bool false))]) 5 inf35 rfl rfl rfl rfl) ?_
  refine AL.y ?_
  apply AL.nil
  try simp only [nd, setL, V.cs, nz, Nat.reduceAdd, nm, ns]
  apply AW.seq
  apply AW.sr
  iterate 4 refine AL.z ?_
  apply AL.nil
  try simp only [nd]
  apply AW.block
  refine AW.loop (fun s' => ∃ (q : Nat) (u1 u2 u3 u4 u5 : Bool), q ≤ n ∧ u1 = ((sts.take q).all fun s => s.arcs.all fA) ∧ u2 = ((sts.take q).all fun s => s.arcs.all fF) ∧ u3 = ((sts.take q).all fun s => disN s.arcs s.arcs.length) ∧ u4 = ((sts.take q).all fun s => srtN s.arcs s.arcs.length) ∧ u5 = ((sts.take q).all fun s => fP s.fin && s.arcs.all fW) ∧ s' = ⟨111, [(1, .ref 1 0), (2, .ref 2 0), (5, .ref 5 0), (20, .d (stsD sts)), (21, .i n), (22, .i q)], [(1, ⟨24, [.i st, .d (stsD sts)], false, 0⟩), (2, ⟨35, [.b false, .b false, .b false, .b false, .b false], false, 0⟩), (5, ⟨35, [.b u1, .b u2, .b u3, .b u4, .b u5], false, 0⟩)], []⟩) (fun s' => n - s'.nat 22) ⟨_, ?_, 0, true, true, true, true, true, by omega, rfl, rfl, rfl, rfl, rfl, rfl⟩ ?_
  ·exact Less.a0
  rintro s' ⟨q, u1, u2, u3, u4, u5, hq, h1, h2, h3, h4, h5, rfl⟩
  by_cases hlt : q < n
  ·obtain ⟨x, hx⟩ := get_lt hn hlt
   have hla4 := hal4 x (List.mem_of_getElem? hx)
   have e1 := all_snoc (fun s : St => s.arcs.all fA) hx
   have e2 := all_snoc (fun s : St => s.arcs.all fF) hx
   have e3 := all_snoc (fun s : St => disN s.arcs s.arcs.length) hx
   have e4 := all_snoc (fun s : St => srtN s.arcs s.arcs.length) hx
   have e5 := all_snoc (fun s : St => fP s.fin && s.arcs.all fW) hx
   rw [← h1] at e1
   rw [← h2] at e2
   rw [← h3] at e3
   rw [← h4] at e4
   rw [← h5] at e5
   clear h1 h2 h3 h4 h5
   obtain ⟨xf, xa⟩ := x
   simp only at hla4 e1 e2 e3 e4 e5
   obtain ⟨la, hla⟩ : ∃ n, xa.length = n := ⟨_, rfl⟩
   have hso := am_sorted xa hla4
   rw [hla] at hla4 e3 e4 hso
   obtain ⟨v5, hv5⟩ : ∃ v, v = (u5 && fP xf) := ⟨_, rfl⟩
   rw [← Bool.and_assoc, ← hv5] at e5
   obtain ⟨so, hsE⟩ : ∃ v, srtN xa la = v := ⟨_, rfl⟩
   rw [hsE] at e4 hso
   clear hsE
   obtain ⟨v4, hv4⟩ : ∃ v, v = (u4 && so) := ⟨_, rfl⟩
   rw [← hv4] at e4
   apply AW.sr
   refine AL.z ?_
   apply AL.nil
   try simp only [nd]
   apply AW.seq
   refine AW.condT rfl ?_
   apply AW.skip
   try simp only [thenS]
   apply AW.seq
   apply AW.block
   apply AW.sr
   iterate 2 refine AL.z ?_
   refine AL.sm rfl (sm_alloc (l := [.d (.p (.int .i64 0)), .d (.p (.slice none 0 0))]) 7 inf33 rfl rfl rfl rfl) ?_
   refine AL.y ?_
   apply AL.nil
   try simp only [nd, setL, V.cs, nz, Nat.reduceAdd, nm, ns]
   refine AW.seqc (fun s' => s' = ⟨111, [(1, .ref 1 0), (2, .ref 2 0), (5, .ref 5 0), (7, .ref 7 0), (20, .d (stsD sts)), (21, .i n), (22, .i q)], [(1, ⟨24, [.i st, .d (stsD sts)], false, 0⟩), (2, ⟨35, [.b false, .b false, .b false, .b false, .b false], false, 0⟩), (5, ⟨35, [.b u1, .b u2, .b u3, .b u4, .b v5], false, 0⟩), (7, ⟨33, [.i xf, .d (arsD xa)], false, 0⟩)], []⟩) ?_ ?_
   ·skip
    cases u5 with
    | false =>
     obtain rfl : v5 = false := by rw [hv5]; rfl
     apply AW.region
     iterate 3 refine AL.z ?_
     refine AL.noV rfl rfl rfl rfl ?_
     refine AL.noV rfl rfl rfl rfl ?_
     refine AL.noV rfl rfl rfl rfl ?_
     refine AL.noV rfl rfl rfl rfl ?_
     refine AL.noU rfl ⟨_, rfl, rfl⟩ rfl ?_
     refine AL.noU rfl ⟨_, rfl, rfl⟩ rfl ?_
     refine AL.noU rfl ⟨_, rfl, rfl⟩ rfl ?_
     refine AL.noV rfl rfl rfl rfl ?_
     iterate 2 refine AL.z ?_
     (refine AL.st rfl (st_store inf4 rfl rfl rfl rfl rfl rfl rfl zT7 rfl) ?_)
     apply AL.nil
     try simp only [nd, setL, V.cs, nz, Nat.reduceAdd, nm, ns]
     refine ⟨_, ?_, rfl⟩
     exact Less.a0
    | true =>
     by_cases f0 : xf = 0
     ·obtain rfl : v5 = true := by rw [hv5]; simp [fP, f0]
      apply AW.region
      iterate 3 refine AL.z ?_
      iterate 4 refine AL.zy ?_
      refine AL.noV rfl rfl rfl rfl ?_
      refine AL.noV rfl rfl rfl rfl ?_
      refine AL.noV rfl rfl rfl rfl ?_
      refine AL.zy ?_
      iterate 2 refine AL.z ?_
      (refine AL.st rfl (st_store inf4 rfl rfl rfl rfl rfl rfl rfl zT7 rfl) ?_)
      apply AL.nil
      try simp only [nd, setL, V.cs, nz, Nat.reduceAdd, nm, ns]
      refine ⟨_, ?_, rfl⟩
      exact Less.a0
     by_cases f1 : xf = 1000000001
     ·obtain rfl : v5 = true := by rw [hv5]; simp [fP, f1]
      apply AW.region
      iterate 3 refine AL.z ?_
      iterate 8 refine AL.zy ?_
      iterate 2 refine AL.z ?_
      (refine AL.st rfl (st_store inf4 rfl rfl rfl rfl rfl rfl rfl zT7 rfl) ?_)
      apply AL.nil
      try simp only [nd, setL, V.cs, nz, Nat.reduceAdd, nm, ns]
      refine ⟨_, ?_, rfl⟩
      exact Less.a0
     obtain rfl : v5 = false := by rw [hv5]; simp [fP, f0, f1]
     apply AW.region
     iterate 3 refine AL.z ?_
     iterate 8 refine AL.zy ?_
     iterate 2 refine AL.z ?_
     (refine AL.st rfl (st_store inf4 rfl rfl rfl rfl rfl rfl rfl zT7 rfl) ?_)
     apply AL.nil
     try simp only [nd, setL, V.cs, nz, Nat.reduceAdd, nm, ns]
     refine ⟨_, ?_, rfl⟩
     exact Less.a0
   rintro s' rfl
   clear hv5
   refine AW.seqc (fun s' => s' = ⟨111, [(1, .ref 1 0), (2, .ref 2 0), (5, .ref 5 0), (7, .ref 7 0), (20, .d (stsD sts)), (21, .i n), (22, .i q)], [(1, ⟨24, [.i st, .d (stsD sts)], false, 0⟩), (2, ⟨35, [.b false, .b false, .b false, .b false, .b false], false, 0⟩), (5, ⟨35, [.b u1, .b u2, .b u3, .b v4, .b v5], false, 0⟩), (7, ⟨33, [.i xf, .d (arsD xa)], false, 0⟩)], []⟩) ?_ ?_
   ·skip
    cases u4 with
    | false =>
     obtain rfl : v4 = false := by rw [hv4]; rfl
     apply AW.region
     iterate 3 refine AL.z ?_
     refine AL.noV rfl rfl rfl rfl ?_
     refine AL.noV rfl rfl rfl rfl ?_
     refine AL.no rfl rfl rfl rfl ?_
     iterate 2 refine AL.z ?_
     (refine AL.st rfl (st_store inf4 rfl rfl rfl rfl rfl rfl rfl zT7 rfl) ?_)
     apply AL.nil
     try simp only [nd, setL, V.cs, nz, Nat.reduceAdd, nm, ns]
     refine ⟨_, ?_, rfl⟩
     exact Less.a0
    | true =>
     obtain rfl : v4 = so := by rw [hv4]; rfl
     apply AW.region
     iterate 3 refine AL.z ?_
     iterate 2 refine AL.zy ?_
     (refine AL.cally (post := ?pc2) rfl rfl (sm_call (args := [_, _]) ?hc2 ⟨Tryd.func24, rfl, rfl, rfl, rfl⟩ rfl rfl rfl rfl) ?_; (case hc2 => (exact hso)); rintro _ rfl -; try dsimp only)
     iterate 2 refine AL.z ?_
     (refine AL.st rfl (st_store inf4 rfl rfl rfl rfl rfl rfl rfl zT7 rfl) ?_)
     apply AL.nil
     try simp only [nd, setL, V.cs, nz, Nat.reduceAdd, nm, ns]
     refine ⟨_, ?_, rfl⟩
     exact Less.a0
   rintro s' rfl
   clear hv4 hso
   apply AW.sr
   refine AL.sm rfl (sm_makeMap 47 rfl rfl rfl) ?_
   refine AL.z ?_
   apply AL.nil
   try simp only [nd, setL, V.cs, nz, Nat.reduceAdd, nm, ns]
   apply AW.sr
   iterate 4 refine AL.z ?_
   apply AL.nil
   try simp only [nd]
   apply AW.block
   refine AW.loop (fun s' => ∃ (i : Nat) (M : List (P2 × Int)) (b1 b2 b3 b5 : Bool), i ≤ la ∧ Seen M (xa.take i) ∧ b1 = (u1 && (xa.take i).all fA) ∧ b2 = (u2 && (xa.take i).all fF) ∧ b3 = (u3 && disN xa i) ∧ b5 = (v5 && (xa.take i).all fW) ∧ s' = ⟨111, [(1, .ref 1 0), (2, .ref 2 0), (5, .ref 5 0), (8, .mp 47 w0.heap.size (mrows encP M)), (20, .d (stsD sts)), (21, .i n), (22, .i q), (49, .d (arsD xa)), (50, .i la), (51, .i i)], [(1, ⟨24, [.i st, .d (stsD sts)], false, 0⟩), (2, ⟨35, [.b false, .b false, .b false, .b false, .b false], false, 0⟩), (5, ⟨35, [.b b1, .b b2, .b b3, .b v4, .b b5], false, 0⟩)], []⟩) (fun s' => la - s'.nat 51) ⟨_, ?_, 0, [], u1, u2, u3, v5, by omega, Seen.nil, by simp, by simp, by simp [disN], by simp, rfl⟩ ?_
   ·exact Less.a0
   rintro s' ⟨i, M, b1, b2, b3, b5, hi, hM, h1, h2, h3, h5, rfl⟩
   by_cases hil : i < la
   ·obtain ⟨y, hy⟩ := get_lt hla hil
    have a1 := all_snoc fA hy
    have a2 := all_snoc fF hy
    have a3 := dis_snoc hy
    have a5 := all_snoc fW hy
    have a1' : (u1 && (xa.take (i + 1)).all fA) = (b1 && fA y) := by rw [a1, h1, Bool.and_assoc]
    have a2' : (u2 && (xa.take (i + 1)).all fF) = (b2 && fF y) := by rw [a2, h2, Bool.and_assoc]
    have a5' : (v5 && (xa.take (i + 1)).all fW) = (b5 && fW y) := by rw [a5, h5, Bool.and_assoc]
    have a3' : (u3 && disN xa (i + 1)) = (b3 && decide (cntP (y.i, y.o) (xa.take i) = 0)) := by rw [a3, h3, Bool.and_assoc]
    have hM1 := hM.step hy
    have hcl := cntP_le (y.i, y.o) (xa.take i)
    rw [List.length_take] at hcl
    have hcnt := hM.cnt (y.i, y.o)
    obtain ⟨k, hk⟩ : ∃ k, cntP (y.i, y.o) (xa.take i) = k := ⟨_, rfl⟩
    have hget := cert_dec hM hk
    rw [hk] at a3' hM1 hcl hcnt
    obtain ⟨v, M1, j, hE, hEv, hjl⟩ := Ent.ex M (y.i, y.o)
    obtain rfl : v = (k : Int) := by rw [hEv, hcnt]
    have hMl := hM.len
    rw [List.length_take] at hMl
    clear a1 a2 a3 a5 h1 h2 h3 h5 hM hk hcnt hEv
    obtain ⟨c1, hc1⟩ : ∃ v, v = (b1 && fA y) := ⟨_, rfl⟩
    obtain ⟨c2, hc2⟩ : ∃ v, v = (b2 && fF y) := ⟨_, rfl⟩
    obtain ⟨c3, hc3⟩ : ∃ v, v = (b3 && decide (k = 0)) := ⟨_, rfl⟩
    obtain ⟨c5, hc5⟩ : ∃ v, v = (b5 && fW y) := ⟨_, rfl⟩
    rw [← hc1] at a1'
    rw [← hc2] at a2'
    rw [← hc3] at a3'
    rw [← hc5] at a5'
    obtain ⟨yi, yo, yw, yt⟩ := y
    simp only at hE hM1 hget hc1 hc2 hc5
    apply AW.sr
    refine AL.z ?_
    apply AL.nil
    try simp only [nd]
    apply AW.seq
    refine AW.condT rfl ?_
    apply AW.skip
    try simp only [thenS]
    apply AW.seq
    apply AW.block
    apply AW.sr
    iterate 2 refine AL.z ?_
    refine AL.sm rfl (sm_alloc (l := [.d (.p (.int .i64 0)), .d (.p (.int .i64 0)), .d (.p (.int .i64 0)), .d (.p (.int .i64 0))]) 10 inf60 rfl rfl rfl rfl) ?_
    refine AL.y ?_
    apply AL.nil
    try simp only [nd, setL, V.cs, nz, Nat.reduceAdd, nm, ns]
    apply AW.sr
    iterate 4 refine AL.z ?_
    refine AL.rp rfl rfl (rp_build_arr (vs := [(0, _), (1, _)]) (zs := [.d (.p (.int .i64 0)), .d (.p (.int .i64 0))]) Tryd.underlying73 inf3 inf73 rfl rfl rfl rfl) ?_
    refine AL.sm rfl (sm_alloc (l := [.d (.p (.int .i64 0)), .d (.p (.int .i64 0))]) 11 inf73 rfl rfl rfl rfl) ?_
    refine AL.y ?_
    apply AL.nil
    try simp only [nd, setL, V.cs, nz, Nat.reduceAdd, nm, ns]
    apply AW.seq
    refine AW.drawG (TM encP 47 M M1) [(0, 2), (1, 0), (2, 1), (3, 2), (4, 0), (5, 2), (6, 0)] (fun i => i == 0 || i == 1 || i == 4 || i == 5) 7 zT10 zT10 rfl zT10 ?_
    refine AT.rp rfl rfl rfl (fun _ _ h => h) (rp_move rfl rfl) ?_
    refine AT.rd0T rfl rfl rfl (rd_loads_ref Tryd.underlying73 rfl inf73 rfl rfl rfl rfl rfl rfl) ?_
    refine AT.incr zT11 (keyOk73) Tryd.underlying72 inf3 rfl rfl rfl rfl rfl rfl rfl rfl rfl rfl rfl rfl rfl rfl rfl (fun _ _ h => h) rfl rfl (fun g a w hs => keyE73 (hs.ev rfl)) rfl (rp_add rfl rfl rfl zT13) rfl rfl (fun g a w hs => keyE73 (hs.ev rfl)) rfl (by simp [S.put, S.newObj, setL, V.cs, V.mpsL, V.mps, D.mps, D.mpsL, D.mpsR, mpsR_ars, mpsR_sts, V.one]) rfl rfl (rp_extract rfl rfl rfl) rfl rfl rfl ?_
    simp only [upS, S.put, List.map_cons, List.map_nil, upM_p, upM_ref, upM_own, upM_mp, upM_junk, upM_tup, upM_sl, mpsR_ars, mpsR_sts, upM_agg2]
    obtain ⟨M2, hM2⟩ : ∃ M2, mput M (yi, yo) ((k : Int) + 1) = M2 := ⟨_, rfl⟩
    rw [hM2] at hM1 hget
    rw [hM2]
    clear hE hM2
    refine AW.seqc (fun s' => s' = ⟨111, [(1, .ref 1 0), (2, .ref 2 0), (5, .ref 5 0), (8, .mp 47 w0.heap.size (mrows encP M2)), (20, .d (stsD sts)), (21, .i n), (22, .i q), (49, .d (arsD xa)), (50, .i la), (51, .i i), (10, .ref 10 0), (11, .ref 11 0)], [(1, ⟨24, [.i st, .d (stsD sts)], false, 0⟩), (2, ⟨35, [.b false, .b false, .b false, .b false, .b false], false, 0⟩), (5, ⟨35, [.b c1, .b b2, .b b3, .b v4, .b b5], false, 0⟩), (10, ⟨60, [.i yi, .i yo, .i yw, .i yt], false, 0⟩), (11, ⟨73, [.i yi, .i yo], false, 0⟩)], []⟩) ?_ ?_
    ·skip
     cases b1 with
     | false =>
      obtain rfl : c1 = false := by rw [hc1]; rfl
      apply AW.region
      iterate 3 refine AL.z ?_
      refine AL.noV rfl rfl rfl rfl ?_
      refine AL.noV rfl rfl rfl rfl ?_
      refine AL.noV rfl rfl rfl rfl ?_
      refine AL.noV rfl rfl rfl rfl ?_
      refine AL.noV rfl rfl rfl rfl ?_
      iterate 2 refine AL.z ?_
      (refine AL.st rfl (st_store inf4 rfl rfl rfl rfl rfl rfl rfl zT7 rfl) ?_)
      apply AL.nil
      try simp only [nd, setL, V.cs, nz, Nat.reduceAdd, nm, ns]
      refine ⟨_, ?_, rfl⟩
      exact Less.a0
     | true =>
      by_cases g1 : yi = yo
      ·obtain rfl : c1 = true := by rw [hc1]; simp [fA, g1]
       apply AW.region
       iterate 3 refine AL.z ?_
       iterate 5 refine AL.zy ?_
       iterate 2 refine AL.z ?_
       (refine AL.st rfl (st_store inf4 rfl rfl rfl rfl rfl rfl rfl zT7 rfl) ?_)
       apply AL.nil
       try simp only [nd, setL, V.cs, nz, Nat.reduceAdd, nm, ns]
       refine ⟨_, ?_, rfl⟩
       exact Less.a0
      obtain rfl : c1 = false := by rw [hc1]; simp [fA, g1]
      apply AW.region
      iterate 3 refine AL.z ?_
      iterate 5 refine AL.zy ?_
      iterate 2 refine AL.z ?_
      (refine AL.st rfl (st_store inf4 rfl rfl rfl rfl rfl rfl rfl zT7 rfl) ?_)
      apply AL.nil
      try simp only [nd, setL, V.cs, nz, Nat.reduceAdd, nm, ns]
      refine ⟨_, ?_, rfl⟩
      exact Less.a0
    rintro s' rfl
    clear hc1
    refine AW.seqc (fun s' => s' = ⟨111, [(1, .ref 1 0), (2, .ref 2 0), (5, .ref 5 0), (8, .mp 47 w0.heap.size (mrows encP M2)), (20, .d (stsD sts)), (21, .i n), (22, .i q), (49, .d (arsD xa)), (50, .i la), (51, .i i), (10, .ref 10 0), (11, .ref 11 0)], [(1, ⟨24, [.i st, .d (stsD sts)], false, 0⟩), (2, ⟨35, [.b false, .b false, .b false, .b false, .b false], false, 0⟩), (5, ⟨35, [.b c1, .b c2, .b b3, .b v4, .b b5], false, 0⟩), (10, ⟨60, [.i yi, .i yo, .i yw, .i yt], false, 0⟩), (11, ⟨73, [.i yi, .i yo], false, 0⟩)], []⟩) ?_ ?_
    ·skip
     cases b2 with
     | false =>
      obtain rfl : c2 = false := by rw [hc2]; rfl
      apply AW.region
      iterate 3 refine AL.z ?_
      refine AL.noV rfl rfl rfl rfl ?_
      refine AL.noV rfl rfl rfl rfl ?_
      refine AL.noV rfl rfl rfl rfl ?_
      iterate 2 refine AL.z ?_
      (refine AL.st rfl (st_store inf4 rfl rfl rfl rfl rfl rfl rfl zT7 rfl) ?_)
      apply AL.nil
      try simp only [nd, setL, V.cs, nz, Nat.reduceAdd, nm, ns]
      refine ⟨_, ?_, rfl⟩
      exact Less.a0
     | true =>
      have hr : (!(decide (yi = 0) && decide (yo = 0))) = c2 := by rw [hc2]; rfl
      apply AW.region
      iterate 3 refine AL.z ?_
      refine AL.zy ?_
      refine AL.rpy rfl rfl rfl (rp_build_arr (vs := []) (zs := [.d (.p (.int .i64 0)), .d (.p (.int .i64 0))]) Tryd.underlying73 inf3 inf73 rfl rfl rfl rfl) ?_
      refine AL.rpy rfl rfl rfl (cmp_neq_73F rfl rfl rfl rfl (by first | assumption | rfl)) ?_
      iterate 2 refine AL.z ?_
      (refine AL.st rfl (st_store inf4 rfl rfl rfl rfl rfl rfl rfl zT7 rfl) ?_)
      apply AL.nil
      try simp only [nd, setL, V.cs, nz, Nat.reduceAdd, nm, ns]
      refine ⟨_, ?_, rfl⟩
      exact Less.a0
    rintro s' rfl
    clear hc2
    refine AW.seqc (fun s' => s' = ⟨111, [(1, .ref 1 0), (2, .ref 2 0), (5, .ref 5 0), (8, .mp 47 w0.heap.size (mrows encP M2)), (20, .d (stsD sts)), (21, .i n), (22, .i q), (49, .d (arsD xa)), (50, .i la), (51, .i i), (10, .ref 10 0), (11, .ref 11 0)], [(1, ⟨24, [.i st, .d (stsD sts)], false, 0⟩), (2, ⟨35, [.b false, .b false, .b false, .b false, .b false], false, 0⟩), (5, ⟨35, [.b c1, .b c2, .b b3, .b v4, .b c5], false, 0⟩), (10, ⟨60, [.i yi, .i yo, .i yw, .i yt], false, 0⟩), (11, ⟨73, [.i yi, .i yo], false, 0⟩)], []⟩) ?_ ?_
    ·skip
     cases b5 with
     | false =>
      obtain rfl : c5 = false := by rw [hc5]; rfl
      apply AW.region
      iterate 3 refine AL.z ?_
      refine AL.noV rfl rfl rfl rfl ?_
      refine AL.noV rfl rfl rfl rfl ?_
      refine AL.noV rfl rfl rfl rfl ?_
      iterate 2 refine AL.z ?_
      (refine AL.st rfl (st_store inf4 rfl rfl rfl rfl rfl rfl rfl zT7 rfl) ?_)
      apply AL.nil
      try simp only [nd, setL, V.cs, nz, Nat.reduceAdd, nm, ns]
      refine ⟨_, ?_, rfl⟩
      exact Less.a0
     | true =>
      by_cases g1 : yw = 0
      ·obtain rfl : c5 = true := by rw [hc5]; simp [fW, g1]
       apply AW.region
       iterate 3 refine AL.z ?_
       iterate 3 refine AL.zy ?_
       iterate 2 refine AL.z ?_
       (refine AL.st rfl (st_store inf4 rfl rfl rfl rfl rfl rfl rfl zT7 rfl) ?_)
       apply AL.nil
       try simp only [nd, setL, V.cs, nz, Nat.reduceAdd, nm, ns]
       refine ⟨_, ?_, rfl⟩
       exact Less.a0
      obtain rfl : c5 = false := by rw [hc5]; simp [fW, g1]
      apply AW.region
      iterate 3 refine AL.z ?_
      iterate 3 refine AL.zy ?_
      iterate 2 refine AL.z ?_
      (refine AL.st rfl (st_store inf4 rfl rfl rfl rfl rfl rfl rfl zT7 rfl) ?_)
      apply AL.nil
      try simp only [nd, setL, V.cs, nz, Nat.reduceAdd, nm, ns]
      refine ⟨_, ?_, rfl⟩
      exact Less.a0
    rintro s' rfl
    clear hc5
    cases b3 with
    | false =>
     obtain rfl : c3 = false := by rw [hc3]; rfl
     apply AW.region
     iterate 3 refine AL.z ?_
     refine AL.noV rfl rfl rfl rfl ?_
     refine AL.noV rfl rfl rfl rfl ?_
     refine AL.noV rfl rfl rfl rfl ?_
     refine AL.noV rfl rfl rfl rfl ?_
     iterate 2 refine AL.z ?_
     (refine AL.st rfl (st_store inf4 rfl rfl rfl rfl rfl rfl rfl zT7 rfl) ?_)
     apply AL.nil
     try simp only [nd, setL, V.cs, nz, Nat.reduceAdd, nm, ns]
     apply AW.region
     iterate 2 refine AL.z ?_
     apply AL.nil
     try simp only [nd]
     refine ⟨_, ?_, ⟨i + 1, M2, c1, c2, _, c5, by omega, hM1, a1'.symm, a2'.symm, a3'.symm, a5'.symm, rfl⟩, ?_⟩
     ·exact Less.a0
     simp [S.nat, fnd]; omega
    | true =>
     by_cases g1 : k = 0
     ·obtain rfl : c3 = true := by rw [hc3]; simp [g1]
      apply AW.region
      iterate 3 refine AL.z ?_
      iterate 2 refine AL.zy ?_
      refine AL.rdy rfl rfl rfl (rd_lookup0 (keyOk73) Tryd.underlying72 inf3 rfl (.inl rfl) (fun g a w hs => keyE73 (hs.ev rfl)) zT11) ?_
      refine AL.zy ?_
      iterate 2 refine AL.z ?_
      (refine AL.st rfl (st_store inf4 rfl rfl rfl rfl rfl rfl rfl zT7 rfl) ?_)
      apply AL.nil
      try simp only [nd, setL, V.cs, nz, Nat.reduceAdd, nm, ns]
      apply AW.region
      iterate 2 refine AL.z ?_
      apply AL.nil
      try simp only [nd]
      refine ⟨_, ?_, ⟨i + 1, M2, c1, c2, _, c5, by omega, hM1, a1'.symm, a2'.symm, a3'.symm, a5'.symm, rfl⟩, ?_⟩
      ·exact Less.a0
      simp [S.nat, fnd]; omega
     obtain rfl : c3 = false := by rw [hc3]; simp [g1]
     apply AW.region
     iterate 3 refine AL.z ?_
     iterate 2 refine AL.zy ?_
     refine AL.rdy rfl rfl rfl (rd_lookup0 (keyOk73) Tryd.underlying72 inf3 rfl (.inl rfl) (fun g a w hs => keyE73 (hs.ev rfl)) zT11) ?_
     refine AL.zy ?_
     iterate 2 refine AL.z ?_
     (refine AL.st rfl (st_store inf4 rfl rfl rfl rfl rfl rfl rfl zT7 rfl) ?_)
     apply AL.nil
     try simp only [nd, setL, V.cs, nz, Nat.reduceAdd, nm, ns]
     apply AW.region
     iterate 2 refine AL.z ?_
     apply AL.nil
     try simp only [nd]
     refine ⟨_, ?_, ⟨i + 1, M2, c1, c2, _, c5, by omega, hM1, a1'.symm, a2'.symm, a3'.symm, a5'.symm, rfl⟩, ?_⟩
     ·exact Less.a0
     simp [S.nat, fnd]; omega
   obtain rfl : i = la := by omega
   rw [List.take_of_length_le zT13] at h1 h2 h5
   rw [← h1] at e1
   rw [← h2] at e2
   rw [← h3] at e3
   rw [← h5] at e5
   apply AW.sr
   refine AL.z ?_
   apply AL.nil
   try simp only [nd]
   apply AW.seq
   refine AW.condF rfl ?_
   refine AW.exit ?_
   try simp only [thenS, inBlockS, ↓reduceIte, Nat.reduceEqDiff]
   apply AW.region
   iterate 2 refine AL.z ?_
   apply AL.nil
   try simp only [nd]
   refine ⟨_, ?_, ⟨q + 1, b1, b2, b3, v4, b5, by omega, e1.symm, e2.symm, e3.symm, e4.symm, e5.symm, rfl⟩, ?_⟩
   ·exact Less.a0
   simp [S.nat, fnd]; omega
  rw [List.take_of_length_le zT13] at h1 h2 h3 h4 h5
  have k1 : bA sts = u1 := h1.symm
  have k2 : bFl sts = u2 := h2.symm
  have k3 : bDi sts = u3 := h3.symm
  have k4 : bSo sts = u4 := h4.symm
  have k5 : bPl sts = u5 := h5.symm
  rw [k1, k2, k3, k4, k5]
  clear h1 h2 h3 h4 h5 k1 k2 k3 k4 k5
  cases u3 with
  | false =>
   simp only [Bool.false_and]
   apply AW.sr
   refine AL.z ?_
   apply AL.nil
   try simp only [nd]
   apply AW.seq
   refine AW.condF rfl ?_
   refine AW.exit ?_
   try simp only [thenS, inBlockS, ↓reduceIte, Nat.reduceEqDiff]
   apply AW.sr
   iterate 3 refine AL.z ?_
   refine AL.noV rfl rfl rfl rfl ?_
   refine AL.noV rfl rfl rfl rfl ?_
   iterate 2 refine AL.z ?_
   (refine AL.st rfl (st_store inf4 rfl rfl rfl rfl rfl rfl rfl zT7 rfl) ?_)
   apply AL.nil
   try simp only [nd, setL, V.cs, nz, Nat.reduceAdd, nm, ns]
   apply AW.sr
   refine AL.z ?_
   refine AL.y ?_
   refine AL.z ?_
   apply AL.nil
   try simp only [nd, setL, V.cs, nz, Nat.reduceAdd, nm, ns]
   apply AW.ret
   exact ⟨[_, _], ⟨⟨2, 0, _, _, rfl, rfl, rfl, Tryd.underlying35, .inr ⟨rfl, _, _, _, _, inf35, rfl, rfl, rfl⟩⟩, rfl, trivial⟩, rfl, by simp [tupOf, V.pure, V.has, V.hasL]⟩
  | true =>
   simp only [Bool.true_and]
   apply AW.sr
   refine AL.z ?_
   apply AL.nil
   try simp only [nd]
   apply AW.seq
   refine AW.condF rfl ?_
   refine AW.exit ?_
   try simp only [thenS, inBlockS, ↓reduceIte, Nat.reduceEqDiff]
   apply AW.sr
   iterate 3 refine AL.z ?_
   iterate 2 refine AL.zy ?_
   iterate 2 refine AL.z ?_
   (refine AL.st rfl (st_store inf4 rfl rfl rfl rfl rfl rfl rfl zT7 rfl) ?_)
   apply AL.nil
   try simp only [nd, setL, V.cs, nz, Nat.reduceAdd, nm, ns]
   apply AW.sr
   refine AL.z ?_
   refine AL.y ?_
   refine AL.z ?_
   apply AL.nil
   try simp only [nd, setL, V.cs, nz, Nat.reduceAdd, nm, ns]
   apply AW.ret
   exact ⟨[_, _], ⟨⟨2, 0, _, _, rfl, rfl, rfl, Tryd.underlying35, .inr ⟨rfl, _, _, _, _, inf35, rfl, rfl, rfl⟩⟩, rfl, trivial⟩, rfl, by simp [tupOf, V.pure, V.has, V.hasL]⟩
 rw [prV_no h0]
 obtain ⟨st, sts⟩ := m
 obtain ⟨e, he⟩ : ∃ e, machE ⟨st, sts⟩ = e := ⟨_, rfl⟩
 rw [he] at h0 ⊢
 refine Fn.intro (n := 111) ⟨Tryd.func8, rfl, rfl, rfl, rfl⟩ zT8 zT14 fun w0 out => ?_
 apply AW.sr
 refine AL.sm rfl (sm_box 1 rfl rfl rfl rfl rfl) ?_
 refine AL.sm rfl (sm_alloc (l := [.d (.p (.bool false)), .d (.p (.bool false)), .d (.p (.bool false)), .d (.p (.bool false)), .d (.p (.bool false))]) 2 inf35 rfl rfl rfl rfl) ?_
 refine AL.z ?_
 apply AL.nil
 try simp only [nd, setL, V.cs, nz, Nat.reduceAdd, nm, ns, enum]
 apply AW.seq
 apply AW.sr
 refine AL.z ?_
 refine AL.call (post := ?pc3) rfl (sm_call (args := [_]) ?hc3 ⟨Tryd.func23, rfl, rfl, rfl, rfl⟩ rfl rfl rfl rfl) ?_
 case hc3 => exact Fn.eqi (am_Check ⟨st, sts⟩) he
 rintro _ rfl -
 try dsimp only
 refine AL.z ?_
 apply AL.nil
 try simp only [nd, setL, V.cs, nz, Nat.reduceAdd, nm, ns]
 apply AW.sr
 iterate 2 refine AL.z ?_
 apply AL.nil
 try simp only [nd]
 refine AW.condT rfl ?_
 apply AW.sr
 refine AL.rp rfl rfl (rp_build (vs := []) (zs := [.d (.p (.bool false)), .d (.p (.bool false)), .d (.p (.bool false)), .d (.p (.bool false)), .d (.p (.bool false))]) pl35 inf35 rfl rfl rfl rfl) ?_
 refine AL.z ?_
 refine AL.y ?_
 refine AL.z ?_
 apply AL.nil
 try simp only [nd, setL, V.cs, nz, Nat.reduceAdd, nm, ns]
 apply AW.ret
 exact ⟨[_, _], ⟨⟨2, 0, _, _, rfl, rfl, rfl, Tryd.underlying35, .inr ⟨rfl, _, _, _, _, inf35, rfl, rfl, rfl⟩⟩, rfl, trivial⟩, rfl, by simp [tupOf, V.pure, V.has, V.hasL]⟩
theorem am_IsEmpty (y : Ar) (b : Bool) (hb : fF y = b) : Fn Tryd.prog 35 [.agg ((arD y).map V.d)] (fun v => v = .b (!b)) := by
 subst hb
 obtain ⟨yi, yo, yw, yt⟩ := y
 refine Fn.intro (n := 11) ⟨Tryd.func35, rfl, rfl, rfl, rfl⟩ zT8 zT14 fun w0 out => ?_
 by_cases h1 : yi = 0
 ·by_cases h2 : yo = 0
  ·skip
   apply AW.sr
   refine AL.sm rfl (sm_box 1 rfl rfl rfl rfl rfl) ?_
   refine AL.z ?_
   apply AL.nil
   try simp only [nd, setL, V.cs, nz, Nat.reduceAdd, nm, ns, enum]
   apply AW.sr
   iterate 4 refine AL.z ?_
   iterate 3 refine AL.zy ?_
   iterate 2 refine AL.z ?_
   apply AL.nil
   try simp only [nd]
   apply AW.ret
   exact ⟨[_], ⟨rfl, trivial⟩, by simp [tupOf, fF, h1, h2], by simp [tupOf, V.pure, V.has]⟩
  skip
  apply AW.sr
  refine AL.sm rfl (sm_box 1 rfl rfl rfl rfl rfl) ?_
  refine AL.z ?_
  apply AL.nil
  try simp only [nd, setL, V.cs, nz, Nat.reduceAdd, nm, ns, enum]
  apply AW.sr
  iterate 4 refine AL.z ?_
  iterate 3 refine AL.zy ?_
  iterate 2 refine AL.z ?_
  apply AL.nil
  try simp only [nd]
  apply AW.ret
  exact ⟨[_], ⟨rfl, trivial⟩, by simp [tupOf, fF, h1, h2], by simp [tupOf, V.pure, V.has]⟩
 skip
 apply AW.sr
 refine AL.sm rfl (sm_box 1 rfl rfl rfl rfl rfl) ?_
 refine AL.z ?_
 apply AL.nil
 try simp only [nd, setL, V.cs, nz, Nat.reduceAdd, nm, ns, enum]
 apply AW.sr
 iterate 4 refine AL.z ?_
 refine AL.noV rfl rfl rfl rfl ?_
 refine AL.noV rfl rfl rfl rfl ?_
 refine AL.noV rfl rfl rfl rfl ?_
 iterate 2 refine AL.z ?_
 apply AL.nil
 try simp only [nd]
 apply AW.ret
 exact ⟨[_], ⟨rfl, trivial⟩, by simp [tupOf, fF, h1], by simp [tupOf, V.pure, V.has]⟩
theorem dis_step {l : List Ar} {i : Nat} {y : Ar} (h : l[i]? = some y) : disN l (i + 1) = (disN l i && (l.take i).all fun b => !(decide (y.i = b.i) && decide (y.o = b.o))) := by simp only [disN, arAt_of h]
theorem srt_step {l : List Ar} {i : Nat} {y : Ar} (h : l[i]? = some y) : srtN l (i + 1) = (srtN l i && (l.take i).all fun b => !ahd y b) := by simp only [srtN, arAt_of h]
theorem band4 (a b c d e : Bool) : ((((a && b) && c) && d) && e) = ((a && (b && e)) && (c && d)) := by cases a <;> cases b <;> cases c <;> cases d <;> cases e <;> rfl
theorem am_Like (m : Mach) : Fn Tryd.prog 16 [mV m] (fun v => v = .tup [prV m, .i (machE m)]) := by
 by_cases h0 : machE m = 0
 ·obtain ⟨h60, h400, hst, hz⟩ := machE_zero h0
  rw [prV_ok h0, h0]
  obtain ⟨st, sts⟩ := m
  simp only at h60 h400 hst hz ⊢
  have hal4 : ∀ x ∈ sts, x.arcs.length ≤ 400 := fun x hx => Nat.le_trans (arcN_mem sts x hx) h400
  have hw0 : ∀ x ∈ sts, ∀ y ∈ x.arcs, 0 ≤ y.w := fun x hx y hy => by
   have := (hz x hx).2 y hy
   simp only [arOk, decide_eq_true_eq] at this
   omega
  obtain ⟨n, hn⟩ : ∃ n, sts.length = n := ⟨_, rfl⟩
  rw [hn] at h60
  clear h400 hst hz
  refine Fn.intro (n := 94) ⟨Tryd.func16, rfl, rfl, rfl, rfl⟩ zT8 zT14 fun w0 out => ?_
  apply AW.sr
  refine AL.sm rfl (sm_box 1 rfl rfl rfl rfl rfl) ?_
  refine AL.sm rfl (sm_alloc (l := [.d (.p (.bool false)), .d (.p (.bool false)), .d (.p (.bool false)), .d (.p (.bool false)), .d (.p (.bool false))]) 2 inf35 rfl rfl rfl rfl) ?_
  refine AL.z ?_
  apply AL.nil
  try simp only [nd, setL, V.cs, nz, Nat.reduceAdd, nm, ns, enum]
  apply AW.sr
  refine AL.z ?_
  refine AL.call (post := ?pc0) rfl (sm_call (args := [_]) ?hc0 ⟨Tryd.func34, rfl, rfl, rfl, rfl⟩ rfl rfl rfl rfl) ?_
  case hc0 => exact Fn.eqi (am_Fault ⟨st, sts⟩) h0
  rintro _ rfl -
  try dsimp only
  refine AL.z ?_
  apply AL.nil
  try simp only [nd, setL, V.cs, nz, Nat.reduceAdd, nm, ns]
  apply AW.seq
  apply AW.sr
  iterate 2 refine AL.z ?_
  apply AL.nil
  try simp only [nd]
  refine AW.condF rfl ?_
  apply AW.skip
  try simp only [thenS]
  apply AW.sr
  refine AL.rp rfl rfl (rp_build (vs := [(0, _), (1, _), (2, _), (3, _), (4, _)]) (zs := [.d (.p (.bool false)), .d (.p (.bool false)), .d (.p (.bool false)), .d (.p (.bool false)), .d (.p (.bool false))]) pl35 inf35 rfl rfl rfl rfl) ?_
  refine AL.sm rfl (sm_alloc (l := [.d (.p (.bool false)), .d (.p (.bool false)), .d (.p (.bool false)), .d (.p (.bool false)), .d (.p (.bool false))]) 5 inf35 rfl rfl rfl rfl) ?_
  refine AL.y ?_
  apply AL.nil
  try simp only [nd, setL, V.cs, nz, Nat.reduceAdd, nm, ns]
  apply AW.seq
  apply AW.sr
  refine AL.z ?_
  apply AL.nil
  try simp only [nd]
  apply AW.block
  refine AW.loop (fun s' => ∃ (q : Nat) (u1 u2 u3 d3 u4 u5 : Bool), q ≤ n ∧ u1 = ((sts.take q).all fun s => s.arcs.all fA) ∧ u2 = ((sts.take q).all fun s => s.arcs.all fF) ∧ d3 = ((sts.take q).all fun s => disN s.arcs s.arcs.length) ∧ u3 = (d3 && u2) ∧ u4 = ((sts.take q).all fun s => srtN s.arcs s.arcs.length) ∧ u5 = ((sts.take q).all fun s => fP s.fin && s.arcs.all fW) ∧ s' = ⟨94, [(1, .ref 1 0), (2, .ref 2 0), (5, .ref 5 0), (6, .i q)], [(1, ⟨24, [.i st, .d (stsD sts)], false, 0⟩), (2, ⟨35, [.b false, .b false, .b false, .b false, .b false], false, 0⟩), (5, ⟨35, [.b u1, .b u2, .b u3, .b u4, .b u5], false, 0⟩)], []⟩) (fun s' => n - s'.nat 6) ⟨_, ?_, 0, true, true, true, true, true, true, by omega, rfl, rfl, rfl, rfl, rfl, rfl, rfl⟩ ?_
  ·exact Less.a0
  rintro s' ⟨q, u1, u2, u3, d3, u4, u5, hq, h1, h2, h3, h6, h4, h5, rfl⟩
  by_cases hlt : q < n
  ·obtain ⟨x, hx⟩ := get_lt hn hlt
   have hla4 := hal4 x (List.mem_of_getElem? hx)
   have hw1 := hw0 x (List.mem_of_getElem? hx)
   have e1 := all_snoc (fun s : St => s.arcs.all fA) hx
   have e2 := all_snoc (fun s : St => s.arcs.all fF) hx
   have e3 := all_snoc (fun s : St => disN s.arcs s.arcs.length) hx
   have e4 := all_snoc (fun s : St => srtN s.arcs s.arcs.length) hx
   have e5 := all_snoc (fun s : St => fP s.fin && s.arcs.all fW) hx
   rw [← h1] at e1
   rw [← h2] at e2
   rw [← h3] at e3
   rw [← h4] at e4
   rw [← h5] at e5
   clear h1 h2 h3 h4 h5
   obtain ⟨xf, xa⟩ := x
   simp only at hla4 e1 e2 e3 e4 e5 hw1
   obtain ⟨la, hla⟩ : ∃ n, xa.length = n := ⟨_, rfl⟩
   rw [hla] at hla4 e3 e4
   obtain ⟨v5, hv5⟩ : ∃ v, v = (u5 && fP xf) := ⟨_, rfl⟩
   rw [← Bool.and_assoc, ← hv5] at e5
   apply AW.seq
   apply AW.sr
   iterate 5 refine AL.z ?_
   apply AL.nil
   try simp only [nd]
   refine AW.condT rfl ?_
   apply AW.skip
   try simp only [thenS]
   apply AW.seq
   apply AW.block
   apply AW.sr
   iterate 5 refine AL.z ?_
   refine AL.sm rfl (sm_alloc (l := [.d (.p (.int .i64 0)), .d (.p (.slice none 0 0))]) 7 inf33 rfl rfl rfl rfl) ?_
   refine AL.y ?_
   apply AL.nil
   try simp only [nd, setL, V.cs, nz, Nat.reduceAdd, nm, ns]
   refine AW.seqc (fun s' => s' = ⟨94, [(1, .ref 1 0), (2, .ref 2 0), (5, .ref 5 0), (6, .i q), (7, .ref 7 0)], [(1, ⟨24, [.i st, .d (stsD sts)], false, 0⟩), (2, ⟨35, [.b false, .b false, .b false, .b false, .b false], false, 0⟩), (5, ⟨35, [.b u1, .b u2, .b u3, .b u4, .b v5], false, 0⟩), (7, ⟨33, [.i xf, .d (arsD xa)], false, 0⟩)], []⟩) ?_ ?_
   ·skip
    by_cases f0 : xf = 0
    ·obtain rfl : v5 = u5 := by rw [hv5]; simp [fP, f0]
     apply AW.sr
     iterate 4 refine AL.z ?_
     refine AL.noV rfl rfl rfl rfl ?_
     refine AL.noV rfl rfl rfl rfl ?_
     refine AL.noV rfl rfl rfl rfl ?_
     refine AL.z ?_
     apply AL.nil
     try simp only [nd]
     refine AW.condF rfl ?_
     apply AW.skip
     try simp only [thenS]
     refine ⟨_, ?_, rfl⟩
     exact Less.a0
    by_cases f1 : xf = 1000000001
    ·obtain rfl : v5 = u5 := by rw [hv5]; simp [fP, f1]
     apply AW.sr
     iterate 4 refine AL.z ?_
     iterate 3 refine AL.zy ?_
     refine AL.z ?_
     apply AL.nil
     try simp only [nd]
     refine AW.condF rfl ?_
     apply AW.skip
     try simp only [thenS]
     refine ⟨_, ?_, rfl⟩
     exact Less.a0
    obtain rfl : v5 = false := by rw [hv5]; simp [fP, f0, f1]
    apply AW.sr
    iterate 4 refine AL.z ?_
    iterate 3 refine AL.zy ?_
    refine AL.z ?_
    apply AL.nil
    try simp only [nd]
    refine AW.condT rfl ?_
    apply AW.region
    refine AL.z ?_
    (refine AL.st rfl (st_store inf4 rfl rfl rfl rfl rfl rfl rfl zT7 rfl) ?_)
    apply AL.nil
    try simp only [nd, setL, V.cs, nz, Nat.reduceAdd, nm, ns]
    refine ⟨_, ?_, rfl⟩
    exact Less.a0
   rintro s' rfl
   clear hv5
   apply AW.sr
   refine AL.z ?_
   apply AL.nil
   try simp only [nd]
   apply AW.block
   refine AW.loop (fun s' => ∃ (i : Nat) (b1 b2 b3 b4 b5 : Bool), i ≤ la ∧ b1 = (u1 && (xa.take i).all fA) ∧ b2 = (u2 && (xa.take i).all fF) ∧ b3 = ((d3 && disN xa i) && b2) ∧ b4 = (u4 && srtN xa i) ∧ b5 = (v5 && (xa.take i).all fW) ∧ s' = ⟨94, [(1, .ref 1 0), (2, .ref 2 0), (5, .ref 5 0), (6, .i q), (7, .ref 7 0), (8, .i i)], [(1, ⟨24, [.i st, .d (stsD sts)], false, 0⟩), (2, ⟨35, [.b false, .b false, .b false, .b false, .b false], false, 0⟩), (5, ⟨35, [.b b1, .b b2, .b b3, .b b4, .b b5], false, 0⟩), (7, ⟨33, [.i xf, .d (arsD xa)], false, 0⟩)], []⟩) (fun s' => la - s'.nat 8) ⟨_, ?_, 0, u1, u2, u3, u4, v5, by omega, by simp, by simp, by rw [h6]; simp [disN], by simp [srtN], by simp, rfl⟩ ?_
   ·exact Less.a0
   clear h6
   rintro s' ⟨i, b1, b2, b3, b4, b5, hi, h1, h2, h3, h4, h5, rfl⟩
   by_cases hil : i < la
   ·obtain ⟨y, hy⟩ := get_lt hla hil
    have hyw := hw1 y (List.mem_of_getElem? hy)
    have a1 := all_snoc fA hy
    have a2 := all_snoc fF hy
    have a3 := dis_step hy
    have a4 := srt_step hy
    have a5 := all_snoc fW hy
    have a1' : (u1 && (xa.take (i + 1)).all fA) = (b1 && fA y) := by rw [a1, h1, Bool.and_assoc]
    have a2' : (u2 && (xa.take (i + 1)).all fF) = (b2 && fF y) := by rw [a2, h2, Bool.and_assoc]
    have a5' : (v5 && (xa.take (i + 1)).all fW) = (b5 && fW y) := by rw [a5, h5, Bool.and_assoc]
    have a4' : (u4 && srtN xa (i + 1)) = (b4 && (xa.take i).all fun b => !ahd y b) := by rw [a4, h4, Bool.and_assoc]
    have a3' : ((d3 && disN xa (i + 1)) && (b2 && fF y)) = ((b3 && fF y) && (xa.take i).all fun b => !(decide (y.i = b.i) && decide (y.o = b.o))) := by rw [a3, h3, ← band4]
    clear a1 a2 a3 a4 a5 h1 h2 h3 h4 h5
    obtain ⟨ff, hff⟩ : ∃ v, fF y = v := ⟨_, rfl⟩
    have hem := am_IsEmpty y ff hff
    have haR := fun z => am_AheadR y z
    rw [hff] at a2' a3'
    clear hff
    obtain ⟨c1, hc1⟩ : ∃ v, v = (b1 && fA y) := ⟨_, rfl⟩
    obtain ⟨c2, hc2⟩ : ∃ v, v = (b2 && ff) := ⟨_, rfl⟩
    obtain ⟨c3, hc3⟩ : ∃ v, v = (b3 && ff) := ⟨_, rfl⟩
    obtain ⟨c5, hc5⟩ : ∃ v, v = (b5 && fW y) := ⟨_, rfl⟩
    rw [← hc1] at a1'
    rw [← hc2] at a2' a3'
    rw [← hc3] at a3'
    rw [← hc5] at a5'
    obtain ⟨G3, hG3⟩ : ∃ G : Ar → Bool, G = fun b => !(decide (y.i = b.i) && decide (y.o = b.o)) := ⟨_, rfl⟩
    obtain ⟨G4, hG4⟩ : ∃ G : Ar → Bool, G = fun b => !ahd y b := ⟨_, rfl⟩
    rw [← hG3] at a3'
    rw [← hG4] at a4'
    obtain ⟨yi, yo, yw, yt⟩ := y
    simp only at hc1 hc5 hyw hG3
    apply AW.seq
    apply AW.sr
    iterate 5 refine AL.z ?_
    apply AL.nil
    try simp only [nd]
    refine AW.condT rfl ?_
    apply AW.skip
    try simp only [thenS]
    apply AW.seq
    apply AW.block
    apply AW.sr
    iterate 5 refine AL.z ?_
    refine AL.sm rfl (sm_alloc (l := [.d (.p (.int .i64 0)), .d (.p (.int .i64 0)), .d (.p (.int .i64 0)), .d (.p (.int .i64 0))]) 9 inf60 rfl rfl rfl rfl) ?_
    refine AL.y ?_
    apply AL.nil
    try simp only [nd, setL, V.cs, nz, Nat.reduceAdd, nm, ns]
    refine AW.seqc (fun s' => s' = ⟨94, [(1, .ref 1 0), (2, .ref 2 0), (5, .ref 5 0), (6, .i q), (7, .ref 7 0), (8, .i i), (9, .ref 9 0)], [(1, ⟨24, [.i st, .d (stsD sts)], false, 0⟩), (2, ⟨35, [.b false, .b false, .b false, .b false, .b false], false, 0⟩), (5, ⟨35, [.b c1, .b b2, .b b3, .b b4, .b b5], false, 0⟩), (7, ⟨33, [.i xf, .d (arsD xa)], false, 0⟩), (9, ⟨60, [.i yi, .i yo, .i yw, .i yt], false, 0⟩)], []⟩) ?_ ?_
    ·skip
     by_cases g1 : yi = yo
     ·obtain rfl : c1 = b1 := by rw [hc1]; simp [fA, g1]
      apply AW.sr
      iterate 5 refine AL.z ?_
      apply AL.nil
      try simp only [nd]
      refine AW.condF rfl ?_
      apply AW.skip
      try simp only [thenS]
      refine ⟨_, ?_, rfl⟩
      exact Less.a0
     obtain rfl : c1 = false := by rw [hc1]; simp [fA, g1]
     apply AW.sr
     iterate 5 refine AL.z ?_
     apply AL.nil
     try simp only [nd]
     refine AW.condT rfl ?_
     apply AW.region
     refine AL.z ?_
     (refine AL.st rfl (st_store inf4 rfl rfl rfl rfl rfl rfl rfl zT7 rfl) ?_)
     apply AL.nil
     try simp only [nd, setL, V.cs, nz, Nat.reduceAdd, nm, ns]
     refine ⟨_, ?_, rfl⟩
     exact Less.a0
    rintro s' rfl
    clear hc1
    refine AW.seqc (fun s' => s' = ⟨94, [(1, .ref 1 0), (2, .ref 2 0), (5, .ref 5 0), (6, .i q), (7, .ref 7 0), (8, .i i), (9, .ref 9 0)], [(1, ⟨24, [.i st, .d (stsD sts)], false, 0⟩), (2, ⟨35, [.b false, .b false, .b false, .b false, .b false], false, 0⟩), (5, ⟨35, [.b c1, .b c2, .b c3, .b b4, .b b5], false, 0⟩), (7, ⟨33, [.i xf, .d (arsD xa)], false, 0⟩), (9, ⟨60, [.i yi, .i yo, .i yw, .i yt], false, 0⟩)], []⟩) ?_ ?_
    ·skip
     cases ff with
     | true =>
      obtain rfl : c2 = b2 := by rw [hc2]; simp
      obtain rfl : c3 = b3 := by rw [hc3]; simp
      apply AW.sr
      refine AL.z ?_
      refine AL.call (post := ?pc1) rfl (sm_call (args := [_]) ?hc1 ⟨Tryd.func35, rfl, rfl, rfl, rfl⟩ rfl rfl rfl rfl) ?_
      case hc1 => exact hem
      rintro _ rfl -
      try dsimp only
      apply AL.nil
      try simp only [nd, setL, V.cs, nz, Nat.reduceAdd, nm, ns]
      refine AW.condF rfl ?_
      apply AW.skip
      try simp only [thenS]
      refine ⟨_, ?_, rfl⟩
      exact Less.a0
     | false =>
      obtain rfl : c2 = false := by rw [hc2]; simp
      obtain rfl : c3 = false := by rw [hc3]; simp
      apply AW.sr
      refine AL.z ?_
      refine AL.call (post := ?pc2) rfl (sm_call (args := [_]) ?hc2 ⟨Tryd.func35, rfl, rfl, rfl, rfl⟩ rfl rfl rfl rfl) ?_
      case hc2 => exact hem
      rintro _ rfl -
      try dsimp only
      apply AL.nil
      try simp only [nd, setL, V.cs, nz, Nat.reduceAdd, nm, ns]
      refine AW.condT rfl ?_
      apply AW.sr
      refine AL.z ?_
      (refine AL.st rfl (st_store inf4 rfl rfl rfl rfl rfl rfl rfl zT7 rfl) ?_)
      apply AL.nil
      try simp only [nd, setL, V.cs, nz, Nat.reduceAdd, nm, ns]
      apply AW.region
      refine AL.z ?_
      (refine AL.st rfl (st_store inf4 rfl rfl rfl rfl rfl rfl rfl zT7 rfl) ?_)
      apply AL.nil
      try simp only [nd, setL, V.cs, nz, Nat.reduceAdd, nm, ns]
      refine ⟨_, ?_, rfl⟩
      exact Less.a0
    rintro s' rfl
    clear hc2 hc3 hem
    refine AW.seqc (fun s' => s' = ⟨94, [(1, .ref 1 0), (2, .ref 2 0), (5, .ref 5 0), (6, .i q), (7, .ref 7 0), (8, .i i), (9, .ref 9 0)], [(1, ⟨24, [.i st, .d (stsD sts)], false, 0⟩), (2, ⟨35, [.b false, .b false, .b false, .b false, .b false], false, 0⟩), (5, ⟨35, [.b c1, .b c2, .b c3, .b b4, .b c5], false, 0⟩), (7, ⟨33, [.i xf, .d (arsD xa)], false, 0⟩), (9, ⟨60, [.i yi, .i yo, .i yw, .i yt], false, 0⟩)], []⟩) ?_ ?_
    ·skip
     by_cases g1 : yw = 0
     ·obtain rfl : c5 = b5 := by rw [hc5]; simp [fW, g1]
      apply AW.sr
      iterate 3 refine AL.z ?_
      apply AL.nil
      try simp only [nd]
      refine AW.condF rfl ?_
      apply AW.skip
      try simp only [thenS]
      refine ⟨_, ?_, rfl⟩
      exact Less.a0
     obtain rfl : c5 = false := by rw [hc5]; simp [fW, g1]
     apply AW.sr
     iterate 3 refine AL.z ?_
     apply AL.nil
     try simp only [nd]
     refine AW.condT rfl ?_
     apply AW.region
     refine AL.z ?_
     (refine AL.st rfl (st_store inf4 rfl rfl rfl rfl rfl rfl rfl zT7 rfl) ?_)
     apply AL.nil
     try simp only [nd, setL, V.cs, nz, Nat.reduceAdd, nm, ns]
     refine ⟨_, ?_, rfl⟩
     exact Less.a0
    rintro s' rfl
    clear hc5
    apply AW.sr
    refine AL.z ?_
    apply AL.nil
    try simp only [nd]
    apply AW.block
    refine AW.loop (fun s' => ∃ (j : Nat) (g3 g4 : Bool), j ≤ i ∧ g3 = (c3 && (xa.take j).all G3) ∧ g4 = (b4 && (xa.take j).all G4) ∧ s' = ⟨94, [(1, .ref 1 0), (2, .ref 2 0), (5, .ref 5 0), (6, .i q), (7, .ref 7 0), (8, .i i), (9, .ref 9 0), (10, .i j)], [(1, ⟨24, [.i st, .d (stsD sts)], false, 0⟩), (2, ⟨35, [.b false, .b false, .b false, .b false, .b false], false, 0⟩), (5, ⟨35, [.b c1, .b c2, .b g3, .b g4, .b c5], false, 0⟩), (7, ⟨33, [.i xf, .d (arsD xa)], false, 0⟩), (9, ⟨60, [.i yi, .i yo, .i yw, .i yt], false, 0⟩)], []⟩) (fun s' => i - s'.nat 10) ⟨_, ?_, 0, c3, b4, by omega, by simp, by simp, rfl⟩ ?_
    ·exact Less.a0
    rintro s' ⟨j, g3, g4, hj, k3, k4, rfl⟩
    by_cases hjl : j < i
    ·obtain ⟨z, hz⟩ := get_lt hla (show j < la by omega)
     have a3 := all_snoc G3 hz
     have a4 := all_snoc G4 hz
     have b3 : (c3 && (xa.take (j + 1)).all G3) = (g3 && G3 z) := by rw [a3, k3, Bool.and_assoc]
     have b4' : (b4 && (xa.take (j + 1)).all G4) = (g4 && G4 z) := by rw [a4, k4, Bool.and_assoc]
     clear a3 a4 k3 k4
     obtain ⟨ah, hah⟩ : ∃ v, ahd ⟨yi, yo, yw, yt⟩ z = v := ⟨_, rfl⟩
     have hcon := haR z ah hah
     have hG4z : G4 z = !ah := by rw [hG4, ← hah]
     rw [hG4z] at b4'
     have hG3z : G3 z = !(decide (yi = z.i) && decide (yo = z.o)) := by rw [hG3]
     clear hah hG4z
     obtain ⟨p3, hp3⟩ : ∃ v, v = (g3 && G3 z) := ⟨_, rfl⟩
     rw [← hp3] at b3
     rw [hG3z] at hp3
     clear hG3z
     obtain ⟨zi, zo, zw, zt⟩ := z
     simp only at hp3
     apply AW.seq
     apply AW.sr
     iterate 3 refine AL.z ?_
     apply AL.nil
     try simp only [nd]
     refine AW.condT rfl ?_
     apply AW.skip
     try simp only [thenS]
     apply AW.seq
     apply AW.block
     apply AW.sr
     iterate 5 refine AL.z ?_
     refine AL.sm rfl (sm_alloc (l := [.d (.p (.int .i64 0)), .d (.p (.int .i64 0)), .d (.p (.int .i64 0)), .d (.p (.int .i64 0))]) 11 inf60 rfl rfl rfl rfl) ?_
     refine AL.y ?_
     apply AL.nil
     try simp only [nd, setL, V.cs, nz, Nat.reduceAdd, nm, ns]
     refine AW.seqc (fun s' => s' = ⟨94, [(1, .ref 1 0), (2, .ref 2 0), (5, .ref 5 0), (6, .i q), (7, .ref 7 0), (8, .i i), (9, .ref 9 0), (10, .i j), (11, .ref 11 0)], [(1, ⟨24, [.i st, .d (stsD sts)], false, 0⟩), (2, ⟨35, [.b false, .b false, .b false, .b false, .b false], false, 0⟩), (5, ⟨35, [.b c1, .b c2, .b p3, .b g4, .b c5], false, 0⟩), (7, ⟨33, [.i xf, .d (arsD xa)], false, 0⟩), (9, ⟨60, [.i yi, .i yo, .i yw, .i yt], false, 0⟩), (11, ⟨60, [.i zi, .i zo, .i zw, .i zt], false, 0⟩)], []⟩) ?_ ?_
     ·skip
      by_cases t1 : yi = zi
      ·by_cases t2 : yo = zo
       ·obtain rfl : p3 = false := by rw [hp3]; simp [t1, t2]
        apply AW.sr
        iterate 6 refine AL.z ?_
        iterate 5 refine AL.zy ?_
        refine AL.z ?_
        apply AL.nil
        try simp only [nd]
        refine AW.condT rfl ?_
        apply AW.region
        refine AL.z ?_
        (refine AL.st rfl (st_store inf4 rfl rfl rfl rfl rfl rfl rfl zT7 rfl) ?_)
        apply AL.nil
        try simp only [nd, setL, V.cs, nz, Nat.reduceAdd, nm, ns]
        refine ⟨_, ?_, rfl⟩
        exact Less.a0
       obtain rfl : p3 = g3 := by rw [hp3]; simp [t1, t2]
       apply AW.sr
       iterate 6 refine AL.z ?_
       iterate 5 refine AL.zy ?_
       refine AL.z ?_
       apply AL.nil
       try simp only [nd]
       refine AW.condF rfl ?_
       apply AW.skip
       try simp only [thenS]
       refine ⟨_, ?_, rfl⟩
       exact Less.a0
      obtain rfl : p3 = g3 := by rw [hp3]; simp [t1]
      apply AW.sr
      iterate 6 refine AL.z ?_
      refine AL.noV rfl rfl rfl rfl ?_
      refine AL.noV rfl rfl rfl rfl ?_
      refine AL.noV rfl rfl rfl rfl ?_
      refine AL.noV rfl rfl rfl rfl ?_
      refine AL.noV rfl rfl rfl rfl ?_
      refine AL.z ?_
      apply AL.nil
      try simp only [nd]
      refine AW.condF rfl ?_
      apply AW.skip
      try simp only [thenS]
      refine ⟨_, ?_, rfl⟩
      exact Less.a0
     rintro s' rfl
     clear hp3
     cases ah with
     | true =>
      simp only [Bool.not_true, Bool.and_false] at b4'
      apply AW.sr
      iterate 2 refine AL.z ?_
      refine AL.call (post := ?pc3) rfl (sm_call (args := [_, _]) ?hc3 ⟨Tryd.func36, rfl, rfl, rfl, rfl⟩ rfl rfl rfl rfl) ?_
      case hc3 => exact hcon
      rintro _ rfl -
      try dsimp only
      apply AL.nil
      try simp only [nd, setL, V.cs, nz, Nat.reduceAdd, nm, ns]
      refine AW.condT rfl ?_
      apply AW.region
      refine AL.z ?_
      (refine AL.st rfl (st_store inf4 rfl rfl rfl rfl rfl rfl rfl zT7 rfl) ?_)
      apply AL.nil
      try simp only [nd, setL, V.cs, nz, Nat.reduceAdd, nm, ns]
      apply AW.region
      iterate 3 refine AL.z ?_
      apply AL.nil
      try simp only [nd]
      refine ⟨_, ?_, ⟨j + 1, p3, false, by omega, b3.symm, b4'.symm, rfl⟩, ?_⟩
      ·exact Less.a0
      simp [S.nat, fnd]; omega
     | false =>
      simp only [Bool.not_false, Bool.and_true] at b4'
      apply AW.sr
      iterate 2 refine AL.z ?_
      refine AL.call (post := ?pc4) rfl (sm_call (args := [_, _]) ?hc4 ⟨Tryd.func36, rfl, rfl, rfl, rfl⟩ rfl rfl rfl rfl) ?_
      case hc4 => exact hcon
      rintro _ rfl -
      try dsimp only
      apply AL.nil
      try simp only [nd, setL, V.cs, nz, Nat.reduceAdd, nm, ns]
      refine AW.condF rfl ?_
      apply AW.skip
      try simp only [thenS]
      apply AW.region
      iterate 3 refine AL.z ?_
      apply AL.nil
      try simp only [nd]
      refine ⟨_, ?_, ⟨j + 1, p3, g4, by omega, b3.symm, b4'.symm, rfl⟩, ?_⟩
      ·exact Less.a0
      simp [S.nat, fnd]; omega
    obtain rfl : j = i := by omega
    rw [← k3] at a3'
    rw [← k4] at a4'
    rw [← a2'] at a3'
    apply AW.seq
    apply AW.sr
    iterate 3 refine AL.z ?_
    apply AL.nil
    try simp only [nd]
    refine AW.condF rfl ?_
    refine AW.exit ?_
    try simp only [thenS, inBlockS, ↓reduceIte, Nat.reduceEqDiff]
    apply AW.region
    iterate 3 refine AL.z ?_
    apply AL.nil
    try simp only [nd]
    refine ⟨_, ?_, ⟨j + 1, c1, c2, g3, g4, c5, by omega, a1'.symm, a2'.symm, ?_, a4'.symm, a5'.symm, rfl⟩, ?_⟩
    ·exact Less.a0
    ·rw [← a3', a2']
    simp [S.nat, fnd]; omega
   obtain rfl : i = la := by omega
   rw [List.take_of_length_le zT13] at h1 h2 h5
   rw [← h1] at e1
   rw [← h2] at e2
   rw [← h4] at e4
   rw [← h5] at e5
   apply AW.seq
   apply AW.sr
   iterate 5 refine AL.z ?_
   apply AL.nil
   try simp only [nd]
   refine AW.condF rfl ?_
   refine AW.exit ?_
   try simp only [thenS, inBlockS, ↓reduceIte, Nat.reduceEqDiff]
   apply AW.region
   iterate 3 refine AL.z ?_
   apply AL.nil
   try simp only [nd]
   refine ⟨_, ?_, ⟨q + 1, b1, b2, b3, d3 && disN xa i, b4, b5, by omega, e1.symm, e2.symm, e3.symm, h3, e4.symm, e5.symm, rfl⟩, ?_⟩
   ·exact Less.a0
   simp [S.nat, fnd]; omega
  rw [List.take_of_length_le zT13] at h1 h2 h3 h4 h5
  have k1 : bA sts = u1 := h1.symm
  have k2 : bFl sts = u2 := h2.symm
  have k3 : bDi sts = d3 := h3.symm
  have k4 : bSo sts = u4 := h4.symm
  have k5 : bPl sts = u5 := h5.symm
  rw [k1, k2, k3, k4, k5, ← h6]
  clear h1 h2 h3 h4 h5 k1 k2 k3 k4 k5
  apply AW.seq
  apply AW.sr
  iterate 5 refine AL.z ?_
  apply AL.nil
  try simp only [nd]
  refine AW.condF rfl ?_
  refine AW.exit ?_
  try simp only [thenS, inBlockS, ↓reduceIte, Nat.reduceEqDiff]
  apply AW.sr
  refine AL.z ?_
  refine AL.y ?_
  refine AL.z ?_
  apply AL.nil
  try simp only [nd, setL, V.cs, nz, Nat.reduceAdd, nm, ns]
  apply AW.ret
  exact ⟨[_, _], ⟨⟨2, 0, _, _, rfl, rfl, rfl, Tryd.underlying35, .inr ⟨rfl, _, _, _, _, inf35, rfl, rfl, rfl⟩⟩, rfl, trivial⟩, rfl, by simp [tupOf, V.pure, V.has, V.hasL]⟩
 rw [prV_no h0]
 obtain ⟨st, sts⟩ := m
 obtain ⟨e, he⟩ : ∃ e, machE ⟨st, sts⟩ = e := ⟨_, rfl⟩
 rw [he] at h0 ⊢
 refine Fn.intro (n := 94) ⟨Tryd.func16, rfl, rfl, rfl, rfl⟩ zT8 zT14 fun w0 out => ?_
 apply AW.sr
 refine AL.sm rfl (sm_box 1 rfl rfl rfl rfl rfl) ?_
 refine AL.sm rfl (sm_alloc (l := [.d (.p (.bool false)), .d (.p (.bool false)), .d (.p (.bool false)), .d (.p (.bool false)), .d (.p (.bool false))]) 2 inf35 rfl rfl rfl rfl) ?_
 refine AL.z ?_
 apply AL.nil
 try simp only [nd, setL, V.cs, nz, Nat.reduceAdd, nm, ns, enum]
 apply AW.sr
 refine AL.z ?_
 refine AL.call (post := ?pc5) rfl (sm_call (args := [_]) ?hc5 ⟨Tryd.func34, rfl, rfl, rfl, rfl⟩ rfl rfl rfl rfl) ?_
 case hc5 => exact Fn.eqi (am_Fault ⟨st, sts⟩) he
 rintro _ rfl -
 try dsimp only
 refine AL.z ?_
 apply AL.nil
 try simp only [nd, setL, V.cs, nz, Nat.reduceAdd, nm, ns]
 apply AW.seq
 apply AW.sr
 iterate 2 refine AL.z ?_
 apply AL.nil
 try simp only [nd]
 refine AW.condT rfl ?_
 apply AW.sr
 refine AL.rp rfl rfl (rp_build (vs := []) (zs := [.d (.p (.bool false)), .d (.p (.bool false)), .d (.p (.bool false)), .d (.p (.bool false)), .d (.p (.bool false))]) pl35 inf35 rfl rfl rfl rfl) ?_
 refine AL.z ?_
 refine AL.y ?_
 refine AL.z ?_
 apply AL.nil
 try simp only [nd, setL, V.cs, nz, Nat.reduceAdd, nm, ns]
 apply AW.ret
 exact ⟨[_, _], ⟨⟨2, 0, _, _, rfl, rfl, rfl, Tryd.underlying35, .inr ⟨rfl, _, _, _, _, inf35, rfl, rfl, rfl⟩⟩, rfl, trivial⟩, rfl, by simp [tupOf, V.pure, V.has, V.hasL]⟩
end Go.Proofs.YthiknkcigcglkaaDoor
